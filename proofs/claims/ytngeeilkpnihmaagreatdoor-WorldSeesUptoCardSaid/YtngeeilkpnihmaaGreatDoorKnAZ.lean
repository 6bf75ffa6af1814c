/- Texts of mine that belong together: Kn1, Kn2, On, Kn3, Kn4, Kn5. -/
import Derived.Test.YtngeeilkpnihmaaGreatDoorRbAZ
import Derived.Test.YtngeeilkpnihmaaGreatDoorSkDZ
import Derived.Tactics2
import Derived.Defers
import Derived.Laws.Pointers
import Derived.Laws.LoneSync
import Derived.RegionTactic
import Derived.RegionCalls
set_option linter.all false
namespace Go.Proofs.YtngeeilkpnihmaaGreatDoor
open Go Go.Sk Go.RowKit
set_option maxRecDepth 100000
def kinH (k:KinP):List Value:=[.int .i64 k.unit,.int .i64 k.accel,.int .i64 k.speed]
def brakeV (k:KinP) (s:Int):Int:=brakeP k.accel (max 0 (min s k.speed))
theorem brakeV_in {k:KinP} {s:Int} (h0:0<=s) (h1:s<=k.speed):brakeV k s=brakeP k.accel s:=by
 unfold brakeV
 rw [show max 0 (min s k.speed)=s by omega]
set_option maxHeartbeats 1000000 in
theorem kn_brake {k:KinP} (hk:k.Ok) {p:Nat} {s:Int} {w:World} (h:At w p 0 (kinH k)):Calls Tryz.prog 142 #[.pointer (some ⟨p,0,none⟩),.int .i64 s] w (Ret (.int .i64 (brakeV k s)) w):=by
 have hK:Know w w none' [] [rAt p 0 (kinH k)]:=Know.start (L:=[rAt p 0 (kinH k)]) w (by simpa using h.has (by simp [kinH]))
 clear h
 obtain ⟨T,hT⟩: ∃ T,brakeV k s=T:=⟨_,rfl⟩
 have HT:=Lib.hid hT
 have hb:=brakeP_le (a:=k.accel) (s:=max 0 (min s k.speed)) hk.a1 (by have:=hk.s2;omega)
 have hb1:T<=1000000:=by rw [<-hT];exact hb.2
 rw [hT]
 have ha:=hk.a1
 have ha2:=hk.a2
 have hs1:=hk.s1
 have hs2:=hk.s2
 have hna:decide (k.accel<1)=false:=decide_eq_false (by omega)
 clear hT hb
 go_enter Tryz.func142,Tryz.ntmps142
 go_wp2_with (first
  |((with_reducible refine wl_at (o:=⟨_,.load _ _,_,_,_,_⟩) ?_);first|(refine wl_loadA (b:=p) (k:=0) (j:=1) (hat:=hK.lent.at) rfl rfl rfl (scalT (by decide)) (h:=?_))|(refine wl_loadA (b:=p) (k:=0) (j:=2) (hat:=hK.lent.at) rfl rfl rfl (scalT (by decide)) (h:=?_)))
  |((with_reducible refine tx 4 hK ?_);clear hK;intro w' hK)
  |((with_reducible refine wl_at (o:=⟨_,.call {callee:=.builtin .min,args:= #[_,_],argTypes:=_},_,_,_,_⟩) ?_);refine wl_min2 rfl rfl rfl rfl ?_)
  |((with_reducible refine wl_at (o:=⟨_,.call {callee:=.builtin .max,args:= #[_,_],argTypes:=_},_,_,_,_⟩) ?_);refine wl_max2 rfl rfl rfl rfl ?_)
  |((with_reducible refine wl_at (o:=⟨_,.call {callee:=.builtin .min,args:= #[_,_,_],argTypes:=_},_,_,_,_⟩) ?_);refine wl_min3 rfl rfl rfl rfl rfl ?_)
  |go_big_skip
  |go_big_skip
  |((with_reducible refine wl ?_);refine ldQ ?_)
  |(with_reducible refine en ?_))
 go_loopg [5,6] (1000+(max 0 (min s k.speed) - k.accel)).toNat (fun m t5 t6 wr=> ∃ sum v:Int,t5=.int .i64 sum/\t6=.int .i64 v/\m=(1000+v).toNat/\sum+sumDown k.accel v=T/\0<=sum/\ -1000<=v/\v<=1000/\Know w wr none' [] [rAt p 0 (kinH k)])
 case atStart=>
  refine ⟨0,max 0 (min s k.speed) - k.accel,rfl,by go_num,rfl,?_,by omega,by omega,by omega,hK⟩
  rw [<-HT.out]
  unfold brakeV brakeP
  omega
 case round=>
  clear hK
  obtain ⟨sum,v,rfl,rfl,rfl,hs,h0,h1,h2,hK⟩:=hrel
  by_cases hv:0<v
  · have hp:=sumDown_pos (a:=k.accel) (by omega) hv
    have hq:=sumDown_le (a:=k.accel) (by omega) 1000 (v - k.accel) (by omega)
    have hsum:sum+v<=1000000:=by omega
    have HS:=Lib.hid (show sum+v+sumDown k.accel (v - k.accel)=T by omega)
    clear hs hp hq
    go_wp2_with (first
     |((with_reducible refine wl_at (o:=⟨_,.load _ _,_,_,_,_⟩) ?_);first|(refine wl_loadA (b:=p) (k:=0) (j:=1) (hat:=hK.lent.at) rfl rfl rfl (scalT (by decide)) (h:=?_))|(refine wl_loadA (b:=p) (k:=0) (j:=2) (hat:=hK.lent.at) rfl rfl rfl (scalT (by decide)) (h:=?_)))
     |go_big_skip
     |go_big_skip
     |((with_reducible refine wl ?_);refine ldQ ?_)
     |(with_reducible refine en ?_))
    go_roundg (1000+(v - k.accel)).toNat
    case measure=>omega
    case rel=>exact ⟨sum+v,v - k.accel,by go_num,by go_num,rfl,HS.out,by omega,by omega,by omega,hK⟩
  · have hz:=sumDown_not (a:=k.accel) hv
    have HS:=Lib.hid (show sum=T by omega)
    clear hs hz
    go_wp2_with (first
     |go_big_skip
     |go_big_skip
     |((with_reducible refine wl ?_);refine ldQ ?_)
     |(with_reducible refine en ?_))
    go_ret
    exact ⟨by rw [HS.out];rfl,hK.mod⟩
set_option maxHeartbeats 1000000 in
theorem kn_next {k:KinP} (hk:k.Ok) {p:Nat} {r s v:Int} {w:World} (h:At w p 0 (kinH k)) (hr:1<=r) (hr2:r<=100000) (hs:0<=s) (hs2:s<=1000) (hv:1<=v) (hv2:v<=k.speed):Calls Tryz.prog 153 #[.pointer (some ⟨p,0,none⟩),.int .i64 r,.int .i64 s,.int .i64 v] w (Ret (.int .i64 (nextP k.accel r s v)) w):=by
 have hK:Know w w none' [] [rAt p 0 (kinH k)]:=Know.start (L:=[rAt p 0 (kinH k)]) w (by simpa using h.has (by simp [kinH]))
 clear h
 obtain ⟨T,hT⟩: ∃ T,nextP k.accel r s v=T:=⟨_,rfl⟩
 have HT:=Lib.hid hT
 rw [hT]
 have ha:=hk.a1
 have ha2:=hk.a2
 have hs1:=hk.s1
 have hs3:=hk.s2
 have HK:=Lib.hid hk
 clear hT hk
 go_enter Tryz.func153,Tryz.ntmps153
 go_wp2_with (first
  |((with_reducible refine wl_at (o:=⟨_,.load _ _,_,_,_,_⟩) ?_);first|(refine wl_loadA (b:=p) (k:=0) (j:=1) (hat:=hK.lent.at) rfl rfl rfl (scalT (by decide)) (h:=?_))|(refine wl_loadA (b:=p) (k:=0) (j:=2) (hat:=hK.lent.at) rfl rfl rfl (scalT (by decide)) (h:=?_)))
  |((with_reducible refine wl_at (o:=⟨_,.call {callee:=.builtin .min,args:= #[_,_],argTypes:=_},_,_,_,_⟩) ?_);refine wl_min2 rfl rfl rfl rfl ?_)
  |((with_reducible refine wl_at (o:=⟨_,.call {callee:=.builtin .max,args:= #[_,_],argTypes:=_},_,_,_,_⟩) ?_);refine wl_max2 rfl rfl rfl rfl ?_)
  |((with_reducible refine wl_at (o:=⟨_,.call {callee:=.builtin .min,args:= #[_,_,_],argTypes:=_},_,_,_,_⟩) ?_);refine wl_min3 rfl rfl rfl rfl rfl ?_)
  |go_big_skip
  |go_big_skip
  |((with_reducible refine wl ?_);refine ldQ ?_)
  |(with_reducible refine en ?_))
 go_loopg [9] (min (min (s+k.accel) v) r).toNat (fun m t9 wr=> ∃ q:Int,t9=.int .i64 q/\m=q.toNat/\nextDown k.accel r q=T/\1<=q/\q<=k.speed/\q<=r/\Know w wr none' [] [rAt p 0 (kinH k)])
 case atStart=>exact ⟨min (min (s+k.accel) v) r,by go_num,rfl,HT.out,by omega,by omega,by omega,hK⟩
 case round=>
  clear hK
  obtain ⟨q,rfl,rfl,hq,h1,h2,h3,hK⟩:=hrel
  have kB:=Lib.hid (fun (W:World) (h:At W p 0 (kinH k))=>show Calls Tryz.prog 142 #[.pointer (some ⟨p,0,none⟩),.int .i64 q] W (Ret (.int .i64 (brakeP k.accel q)) W) by
   have:=kn_brake (s:=q) HK.out h
   rw [brakeV_in (by omega) h2] at this
   exact this)
  have hb:=brakeP_le (a:=k.accel) (s:=q) ha (by omega)
  obtain ⟨b,hbb⟩: ∃ b,brakeP k.accel q=b:=⟨_,rfl⟩
  rw [hbb] at kB hb
  obtain ⟨hb0,hb1⟩:=hb
  by_cases hg:1<q/\r - q<b
  · obtain ⟨g1,g2⟩:=hg
    have d1:decide (1<q)=true:=decide_eq_true g1
    have HQ:=Lib.hid (show nextDown k.accel r (q - 1)=T by rw [<-hq,nextDown_go ⟨g1,by rw [hbb];exact g2⟩])
    clear hq hbb
    go_wp2_with (first
     |(go_at_call 142;(refine (hK.quiet (kB.out _ hK.lent.at)).mono ?_;clear hK;rintro e w' ⟨rfl,hK⟩))
     |go_big_skip
     |go_big_skip
     |((with_reducible refine wl ?_);refine ldQ ?_)
     |(with_reducible refine en ?_))
    go_roundg (q - 1).toNat
    case measure=>omega
    case rel=>exact ⟨q - 1,by go_num,rfl,HQ.out,by omega,by omega,by omega,hK⟩
  · have HQ:=Lib.hid (show q=T by rw [<-hq,nextDown_end (by rw [hbb];exact hg)])
    clear hq hbb
    by_cases g1:1<q
    · have g2: ¬ (r - q<b):=fun e=>hg ⟨g1,e⟩
      clear hg
      go_wp2_with (first
       |(go_at_call 142;(refine (hK.quiet (kB.out _ hK.lent.at)).mono ?_;clear hK;rintro e w' ⟨rfl,hK⟩))
       |go_big_skip
       |go_big_skip
       |((with_reducible refine wl ?_);refine ldQ ?_)
       |(with_reducible refine en ?_))
      go_ret
      exact ⟨by rw [HQ.out];rfl,hK.mod⟩
    · clear hg
      go_wp2_with (first
       |go_big_skip
       |go_big_skip
       |((with_reducible refine wl ?_);refine ldQ ?_)
       |(with_reducible refine en ?_))
      go_ret
      exact ⟨by rw [HQ.out];rfl,hK.mod⟩
end Go.Proofs.YtngeeilkpnihmaaGreatDoor
namespace Go.Proofs.YtngeeilkpnihmaaGreatDoor
open Go Go.Sk Go.RowKit
set_option maxRecDepth 100000
def stepBx (p bf be bs bp bk:Nat) (falls:Bool) (end_ speed place:Int):List Res:=
 [rBlk bf [.bool falls] 4,rBlk be [.int .i64 end_] 3,rBlk bs [.int .i64 speed] 3,rBlk bp [.int .i64 place] 3,rBlk bk [.pointer (some ⟨p,0,none⟩)] 117]
theorem kn_steps {p:Nat} {place speed end_:Int} {falls:Bool} {w:World}:Calls Tryz.prog 143 #[.pointer (some ⟨p,0,none⟩),.int .i64 place,.int .i64 speed,.int .i64 end_,.bool falls] w fun e w'=>
 ∃ bf be bs bp bk:Nat,e=.returned (.func (.func 152) #[] #[.pointer (some ⟨bk,0,none⟩),.pointer (some ⟨bf,0,none⟩),.pointer (some ⟨bs,0,none⟩),.pointer (some ⟨bp,0,none⟩),.pointer (some ⟨be,0,none⟩)])/\Turns (stepBx p bf be bs bp bk falls end_ speed place) w w' none':=by
 have hmf: ∀ (fn:Fn) (first cap:Array Value) (w:World),(Instr.makeFunc fn first cap).run Tryz.prog w=.ok (.func fn first cap) w:=fun _ _ _ _=>rfl
 have hK:Know w w none' [] []:=Know.start (L:=[]) w (by simp)
 go_enter Tryz.func143,Tryz.ntmps143
 go_wp2_with (first
  |((with_reducible refine wb 5 ?_)
    (refine wl_boxK hK rfl rfl rfl rfl ?_;clear hK;intro w5 b5 hK))
  |((with_reducible refine wb 6 ?_)
    (refine wl_boxK hK rfl rfl rfl rfl ?_;clear hK;intro w6 b6 hK))
  |((with_reducible refine wb 7 ?_)
    (refine wl_boxK hK rfl rfl rfl rfl ?_;clear hK;intro w7 b7 hK))
  |((with_reducible refine wb 8 ?_)
    (refine wl_boxK hK rfl rfl rfl rfl ?_;clear hK;intro w8 b8 hK))
  |((with_reducible refine wb 9 ?_)
    (refine wl_boxK hK rfl rfl rfl rfl ?_;clear hK;intro w9 b9 hK))
  |go_big_skip
  |go_big_skip
  |((with_reducible refine wl ?_);refine ldQ ?_)
  |(with_reducible refine en ?_))
 go_ret
 exact ⟨b9,b8,b7,b6,b5,rfl,hK.turns⟩
set_option maxHeartbeats 2000000 in
theorem kn_steps1 {k:KinP} (hk:k.Ok) {p bf be bs bp bk l:Nat} {falls:Bool} {place speed end_:Int} {B:List Int->List Res} {w0 w:World} {F:Nat->Prop} {M L:List Res} {X:List Int}
 (h0:0<=place) (h1:end_<=16000) (h2:0<=speed) (h3:speed<=k.speed) (h4:falls=true->1<=speed)
 (hX:stepsP falls k.accel (if falls then speed else k.speed) end_ place speed=X)
 (hB: ∀ W pre M0,Know w0 W F (B pre++M0) L->At W p 0 (kinH k))
 (hY: ∀ pre x W M0,pre++[x]<+:X->Know w0 W F (B pre++M0) L->YieldsK Tryz.prog l #[.int .i64 x] W fun e W'=>e=.returned (.bool true)/\Know w0 W' F (B (pre++[x])++M0) L)
 (hK:Know w0 w F (stepBx p bf be bs bp bk falls end_ speed place++(B []++M)) L):
 Calls Tryz.prog 152 #[.func (.yield l) #[] #[],.pointer (some ⟨bk,0,none⟩),.pointer (some ⟨bf,0,none⟩),.pointer (some ⟨bs,0,none⟩),.pointer (some ⟨bp,0,none⟩),.pointer (some ⟨be,0,none⟩)] w fun e w'=>
  e=.returned (.tuple #[])/\Know w0 w' F (B X++M) L:=by
 have hB': ∀ W pre (M0:List Res),Know w0 W F (M0++(B pre++M)) L->At W p 0 (kinH k):=fun W pre M0 h=>hB W pre (M++M0) (by
  have:=h.swap
  rwa [List.append_assoc] at this)
 have HB:=Lib.hid hB'
 have HY:=Lib.hid hY
 have HX:=Lib.hid hX
 have HK:=Lib.hid hk
 have ha:=hk.a1
 have ha2:=hk.a2
 have hs1:=hk.s1
 have hs2:=hk.s2
 have hat:=hB' w [] _ hK
 clear hB hB' hY hX hk
 simp only [stepBx,List.cons_append,List.nil_append] at hK
 go_enter Tryz.func152,Tryz.ntmps152
 obtain ⟨mo,hmo⟩: ∃ mo,(if falls then speed else k.speed)=mo:=⟨_,rfl⟩
 have HMO:=Lib.hid hmo
 have hmo1:1<=mo/\mo<=k.speed:=by rw [<-hmo];cases falls<;>simp at h4 ⊢ <;>omega
 clear hmo
 cases falls
 · go_wp2_with (first
    |((with_reducible refine wt 11 ?_);(refine wl_loadA (b:=p) (k:=0) (j:=2) (hat:=hat) rfl rfl rfl (scalT (by decide)) (h:=?_)))
    |go_big_skip
    |go_big_skip
    |((with_reducible refine wl ?_);refine ldQ ?_)
    |(with_reducible refine en ?_))
   clear hat
   try simp only [Act.put,List.setIfInBounds_toArray,List.set_cons_succ,List.set_cons_zero]
   go_loopg [7] (end_ - place).toNat (fun m t7 wr=> ∃ (pre:List Int) (pl sp mo:Int),t7=.int .i64 mo/\m=(end_ - pl).toNat/\Hid (pre++stepsP false k.accel mo end_ pl sp=X)/\0<=pl/\0<=sp/\sp<=k.speed/\1<=mo/\mo<=k.speed/\Know w0 wr F (rBlk bf [.bool false] 4::rBlk be [.int .i64 end_] 3::rBlk bs [.int .i64 sp] 3::rBlk bp [.int .i64 pl] 3::rBlk bk [.pointer (some ⟨p,0,none⟩)] 117::(B pre++M)) L)
   case atStart=>exact ⟨[],place,speed,k.speed,rfl,rfl,Lib.hid (by simpa using HX.out),h0,h2,h3,by have:=HMO.out;simp at this;omega,by have:=HMO.out;simp at this;omega,hK⟩
   case round=>
    clear hK HMO
    obtain ⟨pre,pl,sp,mo,rfl,rfl,hP,q0,q1,q2,q3,q4,hK⟩:=hrel
    by_cases hlt:pl<end_
    · obtain ⟨q,hq⟩: ∃ q,nextP k.accel (end_ - pl) sp mo=q:=⟨_,rfl⟩
      have hn:=nextP_is (a:=k.accel) (r:=end_ - pl) (s:=sp) (v:=mo) ha (by omega) q1 q3
      rw [hq] at hn
      obtain ⟨n1,n2,n3,_⟩:=hn
      have HP:=Lib.hid (show pre++[pl+q]++stepsP false k.accel mo end_ (pl+q) q=X by
       rw [<-hP.out,stepsP_go ha q1 q3 hlt,hq]
       simp)
      have kN:=Lib.hid (fun (W:World) (h:At W p 0 (kinH k))=>show Calls Tryz.prog 153 #[.pointer (some ⟨p,0,none⟩),.int .i64 (end_ - pl),.int .i64 sp,.int .i64 mo] W (Ret (.int .i64 q) W) by
       have:=kn_next (r:=end_ - pl) (s:=sp) (v:=mo) HK.out h (by omega) (by omega) q1 (by omega) q3 q4
       rw [hq] at this
       exact this)
      have kY:=Lib.hid (fun (W:World) (M0:List Res) (h:Know w0 W F (M0++(B pre++M)) L)=>show YieldsK Tryz.prog l #[.int .i64 (pl+q)] W (fun e W'=>e=.returned (.bool true)/\Know w0 W' F (M0++(B (pre++[pl+q])++M)) L) by
       have h':=h.swap
       rw [List.append_assoc] at h'
       obtain ⟨fn,tm,asg,bo,y1,y2⟩:=HY.out pre (pl+q) W (M++M0) ⟨_,HP.out⟩ h'
       refine ⟨fn,tm,asg,bo,y1,y2.mono ?_⟩
       rintro e W' ⟨he,hk⟩
       refine ⟨he,?_⟩
       rw [<-List.append_assoc] at hk
       exact hk.swap)
      clear hq
      simp only [hidR 8]
      go_wp2_with (first
       |(with_reducible refine hidR_in ?_)
       |((with_reducible refine wlIn_at (o:=⟨some 31,_,_,_,_,_⟩) ?_);(refine wlIn_yield1 (u:=.int .i64 (pl+q)) rfl rfl rfl rfl (kY.out _ (stepBx p bf be bs bp bk false end_ q (pl+q)) (show Know w0 _ F (rBlk bf [.bool false] 4::rBlk be [.int .i64 end_] 3::rBlk bs [.int .i64 q] 3::rBlk bp [.int .i64 (pl+q)] 3::rBlk bk [.pointer (some ⟨p,0,none⟩)] 117::(B pre++M)) L from hK)) ?_ (fun _ _ h=>by cases h.1) (fun _ h=>by cases h.1);clear hK;rintro v w' ⟨hv,hK⟩;cases hv))
       |(with_reducible refine wpListIn_nil ?_)
       |(with_reducible refine wlIn_cons ?_)
       |(with_reducible refine wlIn_done ?_)
       |(go_at_call 153;(refine (hK.quiet (kN.out _ (HB.out _ pre [_,_,_,_,_] hK))).mono ?_;clear hK;rintro e w' ⟨rfl,hK⟩))
       |((with_reducible refine wl_at (o:=⟨none,.store 3 _ _,_,_,_,_⟩) ?_);(refine wl_storeK hK rfl rfl rfl rfl (sizT (by decide)) rfl (hk:=by exact Nat.succ_pos _) (h:=?_);clear hK;intro w' hK;simp only [z0,z1] at hK))
       |go_big_skip
       |go_big_skip
       |((with_reducible refine wl ?_);refine ldQ ?_)
       |(with_reducible refine en ?_))
      go_roundg (end_ - (pl+q)).toNat
      case measure=>omega
      case rel=>exact ⟨pre++[pl+q],pl+q,q,_,rfl,rfl,HP,by omega,by omega,by omega,by omega,by omega,hK⟩
    · have HP:=Lib.hid (show pre=X by
       rw [<-hP.out,stepsP_end hlt]
       simp)
      go_wp2_with (first
       |go_big_skip
       |go_big_skip
       |((with_reducible refine wl ?_);refine ldQ ?_)
       |(with_reducible refine en ?_))
      first|(refine bodyPost_ret (results_none rfl _ _ _) rfl ?_)|(refine bodyPost_end (results_none rfl _ _ _) rfl ?_)
      refine ⟨rfl,?_⟩
      rw [HP.out] at hK
      exact hK.sub (.cons _ (.cons _ (.cons _ (.cons _ (.cons _ (List.Sublist.refl _))))))
 · go_wp2_with (first
    |((with_reducible refine wt 11 ?_);(refine wl_loadA (b:=p) (k:=0) (j:=2) (hat:=hat) rfl rfl rfl (scalT (by decide)) (h:=?_)))
    |go_big_skip
    |go_big_skip
    |((with_reducible refine wl ?_);refine ldQ ?_)
    |(with_reducible refine en ?_))
   clear hat
   try simp only [Act.put,List.setIfInBounds_toArray,List.set_cons_succ,List.set_cons_zero]
   go_loopg [7] (end_ - place).toNat (fun m t7 wr=> ∃ (pre:List Int) (pl sp mo:Int),t7=.int .i64 mo/\m=(end_ - pl).toNat/\Hid (pre++stepsP true k.accel mo end_ pl sp=X)/\0<=pl/\0<=sp/\sp<=k.speed/\1<=mo/\mo<=k.speed/\Know w0 wr F (rBlk bf [.bool true] 4::rBlk be [.int .i64 end_] 3::rBlk bs [.int .i64 sp] 3::rBlk bp [.int .i64 pl] 3::rBlk bk [.pointer (some ⟨p,0,none⟩)] 117::(B pre++M)) L)
   case atStart=>exact ⟨[],place,speed,speed,rfl,rfl,Lib.hid (by simpa using HX.out),h0,h2,h3,by have:=HMO.out;simp at this;omega,by have:=HMO.out;simp at this;omega,hK⟩
   case round=>
    clear hK HMO
    obtain ⟨pre,pl,sp,mo,rfl,rfl,hP,q0,q1,q2,q3,q4,hK⟩:=hrel
    by_cases hlt:pl<end_
    · obtain ⟨q,hq⟩: ∃ q,nextP k.accel (end_ - pl) sp mo=q:=⟨_,rfl⟩
      have hn:=nextP_is (a:=k.accel) (r:=end_ - pl) (s:=sp) (v:=mo) ha (by omega) q1 q3
      rw [hq] at hn
      obtain ⟨n1,n2,n3,_⟩:=hn
      have HP:=Lib.hid (show pre++[pl+q]++stepsP true k.accel q end_ (pl+q) q=X by
       rw [<-hP.out,stepsP_go ha q1 q3 hlt,hq]
       simp)
      have kN:=Lib.hid (fun (W:World) (h:At W p 0 (kinH k))=>show Calls Tryz.prog 153 #[.pointer (some ⟨p,0,none⟩),.int .i64 (end_ - pl),.int .i64 sp,.int .i64 mo] W (Ret (.int .i64 q) W) by
       have:=kn_next (r:=end_ - pl) (s:=sp) (v:=mo) HK.out h (by omega) (by omega) q1 (by omega) q3 q4
       rw [hq] at this
       exact this)
      have kY:=Lib.hid (fun (W:World) (M0:List Res) (h:Know w0 W F (M0++(B pre++M)) L)=>show YieldsK Tryz.prog l #[.int .i64 (pl+q)] W (fun e W'=>e=.returned (.bool true)/\Know w0 W' F (M0++(B (pre++[pl+q])++M)) L) by
       have h':=h.swap
       rw [List.append_assoc] at h'
       obtain ⟨fn,tm,asg,bo,y1,y2⟩:=HY.out pre (pl+q) W (M++M0) ⟨_,HP.out⟩ h'
       refine ⟨fn,tm,asg,bo,y1,y2.mono ?_⟩
       rintro e W' ⟨he,hk⟩
       refine ⟨he,?_⟩
       rw [<-List.append_assoc] at hk
       exact hk.swap)
      clear hq
      simp only [hidR 8]
      go_wp2_with (first
       |(with_reducible refine hidR_in ?_)
       |((with_reducible refine wlIn_at (o:=⟨some 31,_,_,_,_,_⟩) ?_);(refine wlIn_yield1 (u:=.int .i64 (pl+q)) rfl rfl rfl rfl (kY.out _ (stepBx p bf be bs bp bk true end_ q (pl+q)) (show Know w0 _ F (rBlk bf [.bool true] 4::rBlk be [.int .i64 end_] 3::rBlk bs [.int .i64 q] 3::rBlk bp [.int .i64 (pl+q)] 3::rBlk bk [.pointer (some ⟨p,0,none⟩)] 117::(B pre++M)) L from hK)) ?_ (fun _ _ h=>by cases h.1) (fun _ h=>by cases h.1);clear hK;rintro v w' ⟨hv,hK⟩;cases hv))
       |(with_reducible refine wpListIn_nil ?_)
       |(with_reducible refine wlIn_cons ?_)
       |(with_reducible refine wlIn_done ?_)
       |(go_at_call 153;(refine (hK.quiet (kN.out _ (HB.out _ pre [_,_,_,_,_] hK))).mono ?_;clear hK;rintro e w' ⟨rfl,hK⟩))
       |((with_reducible refine wl_at (o:=⟨none,.store 3 _ _,_,_,_,_⟩) ?_);(refine wl_storeK hK rfl rfl rfl rfl (sizT (by decide)) rfl (hk:=by exact Nat.succ_pos _) (h:=?_);clear hK;intro w' hK;simp only [z0,z1] at hK))
       |go_big_skip
       |go_big_skip
       |((with_reducible refine wl ?_);refine ldQ ?_)
       |(with_reducible refine en ?_))
      go_roundg (end_ - (pl+q)).toNat
      case measure=>omega
      case rel=>exact ⟨pre++[pl+q],pl+q,q,_,rfl,rfl,HP,by omega,by omega,by omega,by omega,by omega,hK⟩
    · have HP:=Lib.hid (show pre=X by
       rw [<-hP.out,stepsP_end hlt]
       simp)
      go_wp2_with (first
       |go_big_skip
       |go_big_skip
       |((with_reducible refine wl ?_);refine ldQ ?_)
       |(with_reducible refine en ?_))
      first|(refine bodyPost_ret (results_none rfl _ _ _) rfl ?_)|(refine bodyPost_end (results_none rfl _ _ _) rfl ?_)
      refine ⟨rfl,?_⟩
      rw [HP.out] at hK
      exact hK.sub (.cons _ (.cons _ (.cons _ (.cons _ (.cons _ (List.Sublist.refl _))))))
end Go.Proofs.YtngeeilkpnihmaaGreatDoor
namespace Go.Proofs.YtngeeilkpnihmaaGreatDoor
open Go Go.Sk Go.RowKit
set_option maxRecDepth 100000
theorem on_disable (w:World):(callFunc 166 #[]).run Tryz.prog w=.ok (.value (.tuple #[])) w:=run_call_mark0 Tryz.func166 (by kernel_rfl) (by kernel_rfl) (by kernel_rfl) .disable (by kernel_rfl) w
theorem on_enable (w:World):(callFunc 168 #[]).run Tryz.prog w=.ok (.value (.tuple #[])) w:=run_call_mark0 Tryz.func168 (by kernel_rfl) (by kernel_rfl) (by kernel_rfl) .enable (by kernel_rfl) w
theorem on_acquire (a:Addr) (w:World):(callFunc 169 #[.pointer (some a)]).run Tryz.prog w=.ok (.value (.tuple #[])) w:=run_call_marked Tryz.func169 (by kernel_rfl) (by kernel_rfl) (by kernel_rfl) .acquire (by kernel_rfl) a w
theorem on_releaseMerge (a:Addr) (w:World):(callFunc 171 #[.pointer (some a)]).run Tryz.prog w=.ok (.value (.tuple #[])) w:=run_call_marked Tryz.func171 (by kernel_rfl) (by kernel_rfl) (by kernel_rfl) .releaseMerge (by kernel_rfl) a w
theorem on_store (a:Addr) (x:Value) (u:FrameMode) (w:World) (hc:w.cell? a=some x) (hz:w.frozen? a=false):
 CallsD Tryz.prog 161 #[.pointer (some a),.bool true] u w fun e u' w'=>u'=u/\(e=.returned (.tuple #[])/\w'=w.drew.setCell a (.int .u32 1)):=by
 have hc':w.drew.cell? a=some x:=by go_simp
 have hz':w.drew.frozen? a=false:=by go_simp
 have hst:=run_call_store (P:=Tryz.prog) Tryz.func164 (by kernel_rfl) (by kernel_rfl) (by kernel_rfl) (by kernel_rfl) (k:=.u32) (y:=1) hc' hz'
 go_enter_d Tryz.func161,Tryz.ntmps161
 go_wp2
 go_region_calls
 all_goals (go_end0;exact ⟨rfl,rfl⟩)
theorem on_unlock (a:Addr) (u:FrameMode) (w:World) (hc:w.cell? a=some (.int .i32 1)) (hz:w.frozen? a=false):
 CallsD Tryz.prog 160 #[.pointer (some a)] u w fun e u' w'=>u'=u/\(e=.returned (.tuple #[])/\w'=w.setCell a (.int .i32 0)):=by
 have hd:=on_disable
 have he:=on_enable
 have hr:=on_releaseMerge
 have hadd:=run_call_add (P:=Tryz.prog) Tryz.func172 (by kernel_rfl) (by kernel_rfl) (by kernel_rfl) .i32 (by kernel_rfl) (y:= -1) (s:=0) hc hz (by simp [go_sem];rfl)
 have hcv:=run_convert_to_unsafe (P:=Tryz.prog) (src:=228) (dst:=232) Tryz.underlying228 Tryz.underlying232 (by kernel_rfl) hc
 go_enter_d Tryz.func160,Tryz.ntmps160
 go_wp2
 go_end0
 go_wp2
 go_end0
 exact ⟨rfl,rfl⟩
theorem on_lock (a:Addr) (w:World) (hc:w.cell? a=some (.int .i32 0)) (hz:w.frozen? a=false):
 Calls Tryz.prog 159 #[.pointer (some a)] w fun e w'=>e=.returned (.tuple #[])/\w'=w.setCell a (.int .i32 1):=by
 have hd:=on_disable
 have he:=on_enable
 have ha:=on_acquire
 have hcas:=run_call_cas_hit (P:=Tryz.prog) Tryz.func167 (by kernel_rfl) (by kernel_rfl) (by kernel_rfl) .i32 (by kernel_rfl) (y:=1) hc hz
 have hc':(w.setCell a (.int .i32 1)).cell? a=some (.int .i32 1):=World.cell?_setCell_same w a _ hc
 have hcv:=run_convert_to_unsafe (P:=Tryz.prog) (src:=228) (dst:=232) Tryz.underlying228 Tryz.underlying232 (by kernel_rfl) hc'
 go_enter Tryz.func159,Tryz.ntmps159
 go_wp2
 first|go_end0|(simp only [Exit.inBlock,Exit.then];refine bodyPost_ret (results_none rfl _ _ _) rfl ?_)|refine bodyPost_ret (results_none rfl _ _ _) rfl ?_
 go_wp2
 go_end0
 exact ⟨rfl,rfl⟩
theorem on_load (a:Addr) (d:Int) (w:World) (hc:w.cell? a=some (.int .u32 d)):
 Calls Tryz.prog 156 #[.pointer (some a)] w fun e w'=>e=.returned (.bool (d !=0))/\w'=w:=by
 have hl:=run_call_load (P:=Tryz.prog) Tryz.func158 (by kernel_rfl) (by kernel_rfl) (by kernel_rfl) .u32 (by kernel_rfl) hc
 go_enter Tryz.func156,Tryz.ntmps156
 go_wp2
 go_ret
 exact ⟨rfl,rfl⟩
theorem on_slow {p off:Nat} {cs:List Value} {T:TypeId} {w0 w:World} {F:Nat->Prop} {M L:List Res} {R:List Value->List Res->Prop} {cap:Array Value} (hK:Know w0 w F (rBlk p cs T::M) L)
 (h0:cs[off]?=some (.int .u32 0)) (h1:cs[off+1]?=some (.int .i32 0))
 (hf: ∀ w1,Know w0 w1 F (rBlk p (cs.set (off+1) (.int .i32 1)) T::M) L->Calls Tryz.prog 155 cap w1 fun e w2=>e=.returned (.tuple #[])/\ ∃ cs' M',cs'[off]?=some (.int .u32 0)/\cs'[off+1]?=some (.int .i32 1)/\R cs' M'/\Know w0 w2 F (rBlk p cs' T::M') L):
 Calls Tryz.prog 157 #[.pointer (some ⟨p,off,none⟩),.func (.func 155) #[] cap] w fun e w'=>e=.returned (.tuple #[])/\ ∃ cs' M',R cs' M'/\Know w0 w' F (rBlk p ((cs'.set off (.int .u32 1)).set (off+1) (.int .i32 0)) T::M') L:=by
 have hlt1:off+1<cs.length:=(List.getElem?_eq_some_iff.1 h1).1
 have hlt0:off<cs.length:=by omega
 have hb:=hK.blk
 have c1:w.cell? ⟨p,off+1,none⟩=some (.int .i32 0):=(hb.cell _).trans h1
 have f1:w.frozen? ⟨p,off+1,none⟩=false:=hb.free _
 have hK1:=hK.setCell (k:=off+1) (v:=.int .i32 1) .head
 simp only [List.set_cons_zero] at hK1
 have hnot: ∀ (x:Bool) (w:World),(Op.unary .not (.bool x)).run Tryz.prog w=.ok (.bool (!x)) w:=fun _ _=>rfl
 have c0:(w.setCell ⟨p,off+1,none⟩ (.int .i32 1)).cell? ⟨p,off,none⟩=some (.int .u32 0):=(hK1.blk.cell _).trans (by rw [List.getElem?_set_ne (by omega)];exact h0)
 clear hK hb h0 h1
 go_enter_defers Tryz.func157,Tryz.ntmps157
 go_wp2_with (first
  |(go_at_call 159;refine (on_lock ⟨p,off+1,none⟩ _ c1 f1).mono ?_;rintro e w' ⟨rfl,rfl⟩)
  |(go_at_call 156;refine (on_load ⟨p,off,none⟩ 0 _ c0).mono ?_;rintro e w' ⟨rfl,rfl⟩)
  |(go_at_call 155;refine (hf _ hK1).mono ?_;rintro e w2 ⟨rfl,cs',M',k0,k1,hR,hK2⟩))
 have b2:=hK2.blk
 refine leaves_cons (f:=161) (args:= #[.pointer (some ⟨p,off,none⟩),.bool true]) (by simp) (by simp [go_sem]) ?_
 refine (on_store ⟨p,off,none⟩ (.int .u32 0) .returning _ ((b2.cell _).trans k0) (b2.free _)).mono ?_
 rintro e u' w'' ⟨rfl,rfl,rfl⟩
 have hK3:=(hK2.same (Mod.drew w2)).setCell (k:=off) (v:=.int .u32 1) .head
 simp only [List.set_cons_zero] at hK3
 have b3:=hK3.blk
 refine leaves_cons (f:=160) (args:= #[.pointer (some ⟨p,off+1,none⟩)]) (by simp [settle]) (by simp [go_sem]) ?_
 refine (on_unlock ⟨p,off+1,none⟩ _ _ ((b3.cell _).trans (by rw [List.getElem?_set_ne (by omega)];exact k1)) (b3.free _)).mono ?_
 rintro e u' w'' ⟨rfl,rfl,rfl⟩
 have hK4:=hK3.setCell (k:=off+1) (v:=.int .i32 0) .head
 simp only [List.set_cons_zero] at hK4
 simp only [settle,Leaves]
 exact ⟨_,results_none rfl _ _ _,rfl,cs',M',hR,hK4⟩
theorem on_first {p off:Nat} {cs:List Value} {T:TypeId} {w0 w:World} {F:Nat->Prop} {M L:List Res} {R:List Value->List Res->Prop} {cap:Array Value} (hK:Know w0 w F (rBlk p cs T::M) L)
 (h0:cs[off]?=some (.int .u32 0)) (h1:cs[off+1]?=some (.int .i32 0))
 (hf: ∀ w1,Know w0 w1 F (rBlk p (cs.set (off+1) (.int .i32 1)) T::M) L->Calls Tryz.prog 155 cap w1 fun e w2=>e=.returned (.tuple #[])/\ ∃ cs' M',cs'[off]?=some (.int .u32 0)/\cs'[off+1]?=some (.int .i32 1)/\R cs' M'/\Know w0 w2 F (rBlk p cs' T::M') L):
 Calls Tryz.prog 154 #[.pointer (some ⟨p,off,none⟩),.func (.func 155) #[] cap] w fun e w'=>e=.returned (.tuple #[])/\ ∃ cs' M',R cs' M'/\Know w0 w' F (rBlk p ((cs'.set off (.int .u32 1)).set (off+1) (.int .i32 0)) T::M') L:=by
 have c0:w.cell? ⟨p,off,none⟩=some (.int .u32 0):=(hK.blk.cell _).trans h0
 have ks:=Lib.hid (on_slow hK h0 h1 hf)
 clear hK h0 h1 hf
 have hnot: ∀ (x:Bool) (w:World),(Op.unary .not (.bool x)).run Tryz.prog w=.ok (.bool (!x)) w:=fun _ _=>rfl
 go_enter Tryz.func154,Tryz.ntmps154
 go_wp2_with (first
  |(go_at_call 156;refine (on_load ⟨p,off,none⟩ 0 _ c0).mono ?_;rintro e w' ⟨rfl,rfl⟩)
  |(go_at_call 157;refine ks.out.mono ?_;rintro e w2 ⟨rfl,cs',M',hR,hK2⟩))
 go_end0
 exact ⟨rfl,cs',M',hR,hK2⟩
theorem on_done {a:Addr} {w:World} {fv:Value} (h:w.cell? a=some (.int .u32 1)):Calls Tryz.prog 154 #[.pointer (some a),fv] w (Ret (.tuple #[]) w):=by
 have hnot: ∀ (x:Bool) (w:World),(Op.unary .not (.bool x)).run Tryz.prog w=.ok (.bool (!x)) w:=fun _ _=>rfl
 go_enter Tryz.func154,Tryz.ntmps154
 go_wp2_with (first
  |(go_at_call 156;refine (on_load a 1 _ h).mono ?_;rintro e w' ⟨rfl,rfl⟩))
 go_end0
 exact ⟨rfl,Mod.refl _ _⟩
end Go.Proofs.YtngeeilkpnihmaaGreatDoor
namespace Go.Proofs.YtngeeilkpnihmaaGreatDoor
open Go Go.Sk Go.RowKit
set_option maxRecDepth 100000
@[irreducible] def rAcc (p off:Nat) (cs:List Value) (pre:List Int):Res where
  p w S:= ∃ ad cap,Sep w [rBlk p (cs.set (off+3) (.slice ad pre.length cap)) 166,rOw 3 elInt (.slice ad pre.length cap) pre] S
  loc:=by rintro w w' S ⟨a,b,h⟩ he;exact ⟨a,b,h.loc he⟩
  lt:=by rintro w S ⟨_,_,h⟩;exact h.lt
theorem rAcc_p {p off:Nat} {cs:List Value} {pre:List Int} {w:World} {S:Nat->Prop}:(rAcc p off cs pre).p w S ↔ ∃ ad cap,Sep w [rBlk p (cs.set (off+3) (.slice ad pre.length cap)) 166,rOw 3 elInt (.slice ad pre.length cap) pre] S:=by unfold rAcc;exact Iff.rfl
theorem kin_at {p:Nat} {cs:List Value} {T:TypeId} {k:KinP} {w:World} (h:Blk w p cs T) (hc:cs.take 3=kinH k):At w p 0 (kinH k):=h.at fun j u hu=>by
 rw [Nat.zero_add]
 rw [<-hc,List.getElem?_take] at hu
 split at hu
 · exact hu
 · cases hu
theorem rAcc_open {p off:Nat} {cs:List Value} {pre:List Int} {w0 w:World} {F:Nat->Prop} {A B L:List Res} (h:Know w0 w F (A++rAcc p off cs pre::B) L):
 ∃ ad cap,Know w0 w F (A++([rBlk p (cs.set (off+3) (.slice ad pre.length cap)) 166,rOw 3 elInt (.slice ad pre.length cap) pre]++B)) L:=by
 obtain ⟨S,h1,h2⟩:=h.stepH
 obtain ⟨ad,cap,h3⟩:=rAcc_p.1 h1
 exact ⟨ad,cap,h2 w _ ⟨Mod.refl _ _,S,h3,fun b hb=>.inl hb⟩⟩
theorem rAcc_shut {p off:Nat} {cs:List Value} {pre:List Int} {ad:Option Addr} {cap:Nat} {w0 w:World} {F:Nat->Prop} {M L:List Res} (h:Know w0 w F (rBlk p (cs.set (off+3) (.slice ad pre.length cap)) 166::rOw 3 elInt (.slice ad pre.length cap) pre::M) L):
 Know w0 w F (rAcc p off cs pre::M) L:=Know.join (R:=[_,_]) h fun w S hs=>rAcc_p.2 ⟨ad,cap,hs⟩
set_option maxHeartbeats 2000000 in
theorem kn_places1 {k:KinP} (hk:k.Ok) {n:Int} {p b2 b3 b5 off:Nat} {cs:List Value} (hn:1<=n/\n<=16) (hc3:cs.take 3=kinH k) (hoff:3<=off) (hlen:off+3<cs.length) (hnil:cs[off+3]?=some (.slice none 0 0)) {w0 w:World} {F:Nat->Prop} {M L:List Res}
 (hK:Know w0 w F (rBlk p cs 166::rBlk b5 [.pointer (some ⟨p,off,none⟩)] 218::rBlk b3 [.int .i64 n] 3::rBlk b2 [.pointer (some ⟨p,0,none⟩)] 117::M) L):
 Calls Tryz.prog 155 #[.pointer (some ⟨b2,0,none⟩),.pointer (some ⟨b3,0,none⟩),.pointer (some ⟨b5,0,none⟩)] w fun e w'=>e=.returned (.tuple #[])/\
  ∃ ad cap,Know w0 w' F (rBlk p (cs.set (off+3) (.slice ad (k.prof n).length cap)) 166::rOw 3 elInt (.slice ad (k.prof n).length cap) (k.prof n)::rBlk b5 [.pointer (some ⟨p,off,none⟩)] 218::M) L:=by
 have hfar:=KinP.far hk hn
 have hat: ∀ {W:World} {v:Value},Blk W p (cs.set (off+3) v) 166->At W p 0 (kinH k):=fun h=>kin_at h (by rw [List.take_set_of_le (by omega)];exact hc3)
 have hu:cs[0]?=some (.int .i64 k.unit):=by
  have:=congrArg (fun l=>l[0]?) hc3
  simpa [List.getElem?_take,kinH] using this
 have HU:=Lib.hid hu
 have hn2:=hn.2
 refine calls_marks Tryz.func155 rfl ?_
 simp only [Tryz.ntmps155,List.size_toArray,List.length_cons,List.length_nil,Nat.reduceAdd,Nat.reduceSub,Array.replicate_succ,Array.replicate_zero,List.push_toArray,List.append_toArray,List.nil_append,List.cons_append]
 go_wp2_with (first
  |((with_reducible refine wt 9 ?_);(refine wl_loadK hK rfl rfl rfl (scalT (by decide)) (hv:=HU.out) (h:=?_)))
  |(go_at_call 143;(refine kn_steps.mono ?_;rintro e w' ⟨bf,be,bs,bp,bk,rfl,hT⟩;replace hK:=hK.push hT;simp only [stepBx,List.cons_append,List.nil_append] at hK;clear hT))
  |((with_reducible refine tx 0 hK ?_);clear hK;intro w' hK)
  |go_big_skip
  |go_big_skip
  |((with_reducible refine wl ?_);refine ldQ ?_)
  |(with_reducible refine en ?_))
 refine wp_rangeFuncK hK rfl (enters_of Tryz.func152 (by kernel_rfl) rfl) ?_
 clear hK
 intro fn D l w1 hK
 replace hK:=hK.nil 3 elInt
 rw [show cs=cs.set (off+3) (.slice none ([]:List Int).length 0) from (by rw [List.getElem?_eq_some_iff] at hnil;obtain ⟨h1,h2⟩:=hnil;exact (by rw [show Value.slice none ([]:List Int).length 0=cs[off+3] from h2.symm];simp))] at hK
 generalize hrec:recOf fn _ _ _ _ D .ready none=rec at hK ⊢
 replace hK:=rAcc_shut (show Know w0 w1 F (rBlk p (cs.set (off+3) (.slice none ([]:List Int).length 0)) 166::rOw 3 elInt (.slice none ([]:List Int).length 0) []::rBlk bf [.bool false] 4::rBlk be [.int .i64 (n*k.unit)] 3::rBlk bs [.int .i64 0] 3::rBlk bp [.int .i64 0] 3::rBlk bk [.pointer (some ⟨p,0,none⟩)] 117::
  rObj l (.loop rec)::rBlk b5 [.pointer (some ⟨p,off,none⟩)] 218::rObj D (.deferred (some []))::rBlk b3 [.int .i64 n] 3::rBlk b2 [.pointer (some ⟨p,0,none⟩)] 117::M) L from hK.order [8,0,3,4,5,6,7,1,9,2,10,11])
 refine (kn_steps1 hk (X:=k.prof n) (B:=fun pre=>[rAcc p off cs pre,rObj l (.loop rec),rBlk b5 [.pointer (some ⟨p,off,none⟩)] 218]) (M:=rObj D (.deferred (some []))::rBlk b3 [.int .i64 n] 3::rBlk b2 [.pointer (some ⟨p,0,none⟩)] 117::M)
  (falls:=false) (place:=0) (speed:=0) (end_:=n*k.unit) (Int.le_refl _) hfar.2 (Int.le_refl _) (by have:=hk.s1;omega) (fun h=>by cases h) (KinP.prof_on hn).symm ?_ ?_
  (show Know w0 w1 F (rBlk bf [.bool false] 4::rBlk be [.int .i64 (n*k.unit)] 3::rBlk bs [.int .i64 0] 3::rBlk bp [.int .i64 0] 3::rBlk bk [.pointer (some ⟨p,0,none⟩)] 117::rAcc p off cs []::rObj l (.loop rec)::rBlk b5 [.pointer (some ⟨p,off,none⟩)] 218::rObj D (.deferred (some []))::rBlk b3 [.int .i64 n] 3::rBlk b2 [.pointer (some ⟨p,0,none⟩)] 117::M) L from hK.order [1,2,3,4,5,0])).mono ?_
 · intro W pre M0 h
   obtain ⟨ad,cap,h⟩:=rAcc_open (A:=[]) h
   exact hat (h.own (i:=0) .head).blk
 · intro pre x W M0 hpre hK
   have hpl:pre.length<16000:=by
    have h1:=hpre.length_le
    have h2:=KinP.prof_len hk n
    simp at h1
    omega
   obtain ⟨ad,cap,hK⟩:=rAcc_open (A:=[]) hK
   simp only [List.cons_append,List.nil_append] at hK
   subst hrec
   refine yields_of1 (hK.front 2) rfl rfl ?_
   clear hpre
   refine wpIn_region_rnd (by kernel_rfl) ?_
   go_wp2_with (first
    |go_big_skip
    |go_big_skip
    |((with_reducible refine wl ?_);refine ldQ ?_)
    |(with_reducible refine en ?_))
   refine stay_normal ?_
   refine ⟨_,hK.front 2,fun w2 hK=>?_⟩
   simp only [List.eraseIdx_cons_succ,List.eraseIdx_cons_zero] at hK
   refine wpIn_block ?_
   have HC:Hid ((cs.set (off+3) (.slice ad pre.length cap))[off+3]?=some (.slice ad pre.length cap)):=by
    show _=_
    rw [List.getElem?_set_self (by omega)]
   go_wp2_with (first
    |((with_reducible refine wpIn_region_stableR (id:=2) hK [0] [rBlk b5 [.pointer (some ⟨p,off,none⟩)] 218] (by kernel_rfl) (by kernel_rfl) (by simp) (by kernel_rfl) (by kernel_rfl) ?_);clear hK;intro w' hK)
    |(with_reducible refine wpC_of ?_)
    |(with_reducible refine atEndC (hK.cls (by simp)) ?_)
    |((with_reducible refine wpC_end' ?_);refine wpC_nil ⟨by kernel_rfl,stays_loadK rfl rfl rfl rfl (scalT (by decide)) rfl (rest:=stays_nil),?_⟩)
    |((with_reducible refine wt 17 ?_);(refine wl_loadK hK rfl rfl rfl (scalT (by decide)) (hv:=HC.out) (h:=?_)))
    |((with_reducible refine wt 19 ?_);(refine wl_buildK 3 elInt [x] hK rfl rfl (fun W=>by kernel_rfl) rfl (by decide) ?_;clear hK;intro adb w19 hK))
    |((with_reducible refine wt 20 ?_)
      (refine wl_appK (xs:=pre) (ys:=[x]) hK intTy rfl rfl rfl rfl hK.rd (by simp;unfold maxLen;omega) (by simp;omega) (h:=?_);clear hK;intro ad2 N2 cap2 w20 hN2 hK;subst hN2;simp only [z0,z1] at hK))
    |((with_reducible refine wl_at (o:=⟨none,.store 53 _ _,_,_,_,_⟩) ?_);(refine wl_storeK (v:=.slice ad2 (pre.length+1) cap2) hK rfl rfl rfl rfl (sizT (by decide)) rfl (hk:=by rw [List.length_set];exact hlen) (h:=?_);clear hK;intro w22 hK;simp only [z0,z1] at hK))
    |(with_reducible refine stay_normal ?_)
    |go_big_skip
    |go_big_skip
    |((with_reducible refine wl ?_);refine ldQ ?_)
    |(with_reducible refine en ?_))
   refine ⟨_,hK.front 1,fun w' hK=>⟨rfl,?_⟩⟩
   simp only [List.eraseIdx_cons_succ,List.eraseIdx_cons_zero,List.set_set] at hK
   replace hK:=hK.order [2,3,0,4,1]
   simp only [List.filterMap_cons,List.filterMap_nil,List.getElem?_cons_succ,List.getElem?_cons_zero,List.length_cons,List.length_nil,Nat.reduceAdd,List.drop_succ_cons,List.drop_zero,List.cons_append,List.nil_append] at hK
   have hl1:(pre++[x]).length=pre.length+1:=by simp
   rw [<-hl1] at hK
   have hK2:=rAcc_shut (pre:=pre++[x]) hK
   exact hK2.sub (.cons_cons _ (.cons_cons _ (.cons_cons _ (.cons _ (List.Sublist.refl _)))))
 · rintro e w3 ⟨rfl,hK⟩
   subst hrec
   refine .inl ⟨_,hK.front 1,fun w4 hK=>?_⟩
   simp only [List.cons_append,List.nil_append,List.eraseIdx_cons_succ,List.eraseIdx_cons_zero] at hK
   obtain ⟨ad,cap,hK⟩:=rAcc_open (A:=[]) hK
   simp only [List.cons_append,List.nil_append] at hK
   refine leaves_mark hK (.tail (.tail (.tail .head))) fun w5 hK=>leaves_nil (results_none rfl _ _ _) ⟨rfl,ad,cap,?_⟩
   simp only [List.set_cons_succ,List.set_cons_zero] at hK
   exact hK.sub (.cons_cons _ (.cons_cons _ (.cons_cons _ (.cons _ (.cons _ (.cons _ (List.Sublist.refl _)))))))
end Go.Proofs.YtngeeilkpnihmaaGreatDoor
namespace Go.Proofs.YtngeeilkpnihmaaGreatDoor
open Go Go.Sk Go.RowKit
set_option maxRecDepth 100000
theorem run_cells_len (r:KRun):r.cells.length=4:=rfl
theorem flat4_at {r:KRun} {i:Nat} (hi:i<4): ∀ {rs:List KRun} {j:Nat},rs[j]?=some r->(rs.flatMap KRun.cells)[j*4+i]?=r.cells[i]?
 |[],_,h=>by simp at h
 |x::rs,0,h=>by
  simp only [List.getElem?_cons_zero,Option.some.injEq] at h
  subst h
  rw [List.flatMap_cons,List.getElem?_append_left (by rw [run_cells_len];omega)]
  simp
 |x::rs,j+1,h=>by
  rw [List.flatMap_cons,List.getElem?_append_right (by rw [run_cells_len];omega),run_cells_len,show (j+1)*4+i - 4=j*4+i by omega]
  exact flat4_at hi (by simpa using h)
theorem flat4_other {r:KRun}: ∀ {rs:List KRun} {j i:Nat},¬ (j*4<=i/\i<j*4+4)->((rs.set j r).flatMap KRun.cells)[i]?=(rs.flatMap KRun.cells)[i]?
 |[],_,_,_=>by simp
 |x::rs,0,i,h=>by
  rw [List.set_cons_zero,List.flatMap_cons,List.flatMap_cons,List.getElem?_append_right (by rw [run_cells_len];omega),List.getElem?_append_right (by rw [run_cells_len];omega)]
  rfl
 |x::rs,j+1,i,h=>by
  rw [List.set_cons_succ,List.flatMap_cons,List.flatMap_cons]
  by_cases hi:i<4
  · rw [List.getElem?_append_left (by rw [run_cells_len];omega),List.getElem?_append_left (by rw [run_cells_len];omega)]
  · rw [List.getElem?_append_right (by rw [run_cells_len];omega),List.getElem?_append_right (by rw [run_cells_len];omega),run_cells_len]
    exact flat4_other (by omega)
theorem kin_cell {k:KinP} {rs:List KRun} {j i:Nat} {r:KRun} (h:rs[j]?=some r) (hi:i<4):(kinCells k rs)[3+j*4+i]?=r.cells[i]?:=by
 unfold kinCells
 rw [List.getElem?_append_right (by simp;omega)]
 rw [show 3+j*4+i - [Value.int IntKind.i64 k.unit,Value.int IntKind.i64 k.accel,Value.int IntKind.i64 k.speed].length=j*4+i by simp;omega]
 exact flat4_at hi h
theorem kin_take {k:KinP} {rs:List KRun}:(kinCells k rs).take 3=kinH k:=rfl
theorem flat4_len: ∀ rs:List KRun,(rs.flatMap KRun.cells).length=4*rs.length
 |[]=>rfl
 |x::rs=>by
  rw [List.flatMap_cons,List.length_append,flat4_len rs,run_cells_len,List.length_cons]
  omega
theorem kin_len {k:KinP} {rs:List KRun}:(kinCells k rs).length=3+4*rs.length:=by
 unfold kinCells
 rw [List.length_append,flat4_len]
 rfl
theorem kin_set {k:KinP} {rs:List KRun} {j:Nat} {v:Sv Int} (hj:j<rs.length):
 (((((kinCells k rs).set (3+j*4+1) (.int .i32 1)).set (3+j*4+3) v.val).set (3+j*4) (.int .u32 1)).set (3+j*4+1) (.int .i32 0))=kinCells k (rs.set j ⟨true,v⟩):=by
 obtain ⟨r,hr⟩: ∃ r,rs[j]?=some r:=⟨_,List.getElem?_eq_getElem hj⟩
 have hl:(kinCells k rs).length=3+4*rs.length:=kin_len
 have hr':(rs.set j ⟨true,v⟩)[j]?=some ⟨true,v⟩:=by rw [List.getElem?_set_self hj]
 apply List.ext_getElem?
 intro i
 by_cases h0:i=3+j*4
 · subst h0
   rw [List.getElem?_set_ne (by omega),List.getElem?_set_self (by simp;omega)]
   exact (kin_cell (i:=0) hr' (by omega)).symm
 by_cases h1:i=3+j*4+1
 · subst h1
   rw [List.getElem?_set_self (by simp;omega)]
   exact (kin_cell (i:=1) hr' (by omega)).symm
 by_cases h3:i=3+j*4+3
 · subst h3
   rw [List.getElem?_set_ne (by omega),List.getElem?_set_ne (by omega),List.getElem?_set_self (by simp;omega)]
   exact (kin_cell (i:=3) hr' (by omega)).symm
 rw [List.getElem?_set_ne (by omega),List.getElem?_set_ne (by omega),List.getElem?_set_ne (by omega),List.getElem?_set_ne (by omega)]
 by_cases h2:i=3+j*4+2
 · subst h2
   rw [kin_cell (i:=2) hr' (by omega),kin_cell (i:=2) hr (by omega)]
   rfl
 · unfold kinCells
   by_cases hi:i<3
   · rw [List.getElem?_append_left (by simpa using hi),List.getElem?_append_left (by simpa using hi)]
   · rw [List.getElem?_append_right (by simp;omega),List.getElem?_append_right (by simp;omega)]
     exact (flat4_other (by simp;omega)).symm
@[irreducible] def rKINat (k:KinP) (p:Nat) (n:Int) (ad:Option Addr) (cap:Nat):Res where
  p w S:=(rKIN k p).p w S/\ ∃ T,(rRd elInt (.slice ad (k.prof n).length cap) (k.prof n)).p w T/\ ∀ b,T b->S b
  loc:=by rintro w w' S ⟨h1,T,h2,h3⟩ he;exact ⟨(rKIN k p).loc h1 he,T,(rRd elInt _ _).loc h2 fun b hb=>he b (h3 b hb),h3⟩
  lt:=by rintro w S ⟨h1,_⟩;exact (rKIN k p).lt h1
theorem rKINat_p {k:KinP} {p:Nat} {n:Int} {ad:Option Addr} {cap:Nat} {w:World} {S:Nat->Prop}:(rKINat k p n ad cap).p w S ↔ (rKIN k p).p w S/\ ∃ T,(rRd elInt (.slice ad (k.prof n).length cap) (k.prof n)).p w T/\ ∀ b,T b->S b:=by unfold rKINat;exact Iff.rfl
theorem Has.kinRd {k:KinP} {p:Nat} {n:Int} {ad:Option Addr} {cap:Nat} {w:World} (h:Has w (rKINat k p n ad cap)):Rd w elInt (.slice ad (k.prof n).length cap) (k.prof n):=by
 obtain ⟨S,h⟩:=h
 obtain ⟨_,T,h2,_⟩:=rKINat_p.1 h
 exact Has.rd ⟨T,h2⟩
theorem kinAt_kin {k:KinP} {p:Nat} {n:Int} {ad:Option Addr} {cap:Nat} {w:World} {S:Nat->Prop} (h:(rKINat k p n ad cap).p w S):(rKIN k p).p w S:=(rKINat_p.1 h).1
theorem kin_shut {k:KinP} {p:Nat} {n:Int} {rs:List KRun} {w w':World} {S:Nat->Prop} {j:Nat} {v:Sv Int} (hok:KnOk k rs) (hj:rs[j]?=some ⟨true,v⟩) (hn:n=j) (h:Know w w' S (rKn k p rs) []):Turn (rKINat k p n v.ad v.cap) w w' S:=by
 have hv:v.l=k.prof n:=by have:=hok.each j _ hj;rw [hn];simpa using this
 obtain ⟨m,U,h1,h2⟩:=h.turns
 refine ⟨m,U,rKINat_p.2 ⟨rKIN_p.2 ⟨rs,hok,h1⟩,?_⟩,h2⟩
 obtain ⟨T,k1,k2⟩:=Sep.mem h1 (r:=rMany (rs.map runRes)) List.mem_cons_self
 obtain ⟨T2,k3,k4⟩:=Sep.mem (rMany_p.1 k1) (r:=runRes ⟨true,v⟩) (List.mem_map.2 ⟨_,List.mem_of_getElem? hj,rfl⟩)
 have k5:=rOw_rd (show (rOw 3 elInt v.val v.l).p w' T2 from k3)
 refine ⟨T2,?_,fun b hb=>k2 b (k4 b hb)⟩
 rw [<-hv]
 exact k5
theorem kin_shut0 {k:KinP} {p:Nat} {n:Int} {rs:List KRun} {w w':World} {S:Nat->Prop} (hok:KnOk k rs) (hn: ¬ (1<=n/\n<=16)) (h:Know w w' S (rKn k p rs) []):Turn (rKINat k p n none 0) w w' S:=by
 obtain ⟨m,U,h1,h2⟩:=h.turns
 obtain ⟨T,k1,k2⟩:=rRd_nil elInt w' (.slice none 0 0) (Rd.nil w' elInt)
 refine ⟨m,U,rKINat_p.2 ⟨rKIN_p.2 ⟨rs,hok,h1⟩,T,?_,fun b hb=>(k2 b hb).elim⟩,h2⟩
 rw [KinP.prof_off hn]
 exact k1
theorem Know.kin {k:KinP} {p:Nat} {w:World} {S:Nat->Prop} (h:(rKIN k p).p w S): ∃ rs,KnOk k rs/\Know w w S (rKn k p rs) []:=by
 obtain ⟨rs,hok,h⟩:=rKIN_p.1 h
 exact ⟨rs,hok,Know.startS h (by simp)⟩
theorem KnOk.set {k:KinP} {rs:List KRun} {j:Nat} {v:Sv Int} (h:KnOk k rs) (hj:j<rs.length) (hv:v.l=k.prof j):KnOk k (rs.set j ⟨true,v⟩):=by
 refine ⟨h.ok,by rw [List.length_set,h.len],fun i r hr=>?_⟩
 by_cases hi:i=j
 · subst hi
   rw [List.getElem?_set_self hj] at hr
   cases hr
   simpa using hv
 · rw [List.getElem?_set_ne (Ne.symm hi)] at hr
   exact h.each i r hr
set_option maxHeartbeats 4000000 in
theorem kn_places {k:KinP} {p:Nat} {n:Int} {w:World} {S:Nat->Prop} (h:(rKIN k p).p w S):Calls Tryz.prog 151 #[.pointer (some ⟨p,0,none⟩),.int .i64 n] w fun e w'=>
 ∃ ad cap,e=.returned (.slice ad (k.prof n).length cap)/\Turn (rKINat k p n ad cap) w w' S:=by
 have hmf: ∀ (fn:Fn) (first cap:Array Value) (w:World),(Instr.makeFunc fn first cap).run Tryz.prog w=.ok (.func fn first cap) w:=fun _ _ _ _=>rfl
 obtain ⟨rs,hok,hK⟩:=Know.kin h
 clear h
 have HO:=Lib.hid hok
 have hu:=hok.ok.u1
 have HU:Hid ((kinCells k rs)[0]?=some (.int .i64 k.unit)):=rfl
 have du:decide (k.unit<1)=false:=decide_eq_false (by omega)
 by_cases hn:1<=n/\n<=16
 · obtain ⟨j,rfl⟩: ∃ j:Nat,n=(j:Int):=⟨n.toNat,by omega⟩
   have HN:=Lib.hid hn
   obtain ⟨hn1,hn2⟩:=hn
   have d1:decide ((j:Int)<1)=false:=decide_eq_false (by omega)
   have d2:decide (16<(j:Int))=false:=decide_eq_false (by omega)
   obtain ⟨r,hr⟩: ∃ r,rs[j]?=some r:=⟨_,List.getElem?_eq_getElem (by have:=hok.len;omega)⟩
   have HR:=Lib.hid hr
   simp only [rKn] at hK
   obtain ⟨on,v⟩:=r
   have HC0:=Lib.hid (kin_cell (k:=k) (i:=0) hr (by omega))
   have HC1:=Lib.hid (kin_cell (k:=k) (i:=1) hr (by omega))
   have HC3:=Lib.hid (kin_cell (k:=k) (i:=3) hr (by omega))
   have hv:=hok.each j _ hr
   clear hr hok
   cases on with
   |true=>
    have HV:=Lib.hid (show v.l=k.prof j by simpa using hv)
    clear hv
    go_enter Tryz.func151,Tryz.ntmps151
    go_wp2_with (first
     |((with_reducible refine wb 2 ?_)
       (refine wl_boxK hK rfl rfl rfl rfl ?_;clear hK;intro w2 b2 hK))
     |((with_reducible refine wb 3 ?_)
       (refine wl_boxK hK rfl rfl rfl rfl ?_;clear hK;intro w3 b3 hK))
     |((with_reducible refine wt 12 ?_);(refine wl_loadK hK rfl rfl rfl (scalT (by decide)) (hv:=HU.out) (h:=?_)))
     |((with_reducible refine wl_at (o:=⟨some 5,.alloc _,_,_,_,_⟩) ?_);(refine wl_allocK (z:=.pointer none) (zs:=[.pointer none]) hK rfl rfl (by kernel_rfl) rfl ?_;clear hK;intro w5 b5 hK))
     |((with_reducible refine wl_at (o:=⟨none,.store 218 _ _,_,_,_,_⟩) ?_);(refine wl_storeK (v:=.pointer (some ⟨p,3+j*4,none⟩)) hK rfl rfl rfl rfl (sizT (by decide)) rfl (h:=?_);clear hK;intro w6 hK;simp only [z0,z1] at hK))
     |(go_at_call 154;(refine (hK.quiet (on_done (a:=⟨p,3+j*4,none⟩) (((hK.blk (b:=p) (cs:=kinCells k rs) (T:=166)).cell _).trans HC0.out))).mono ?_;clear hK;rintro e w' ⟨rfl,hK⟩))
     |((with_reducible refine wt 36 ?_);(refine wl_loadK (k:=3+j*4+3) (v:=v.val) hK rfl rfl rfl (scalT (by decide)) (hv:=HC3.out) (h:=?_)))
     |((with_reducible refine tx 3 hK ?_);clear hK;intro w' hK)
     |go_big_skip
     |go_big_skip
     |((with_reducible refine wl ?_);refine ldQ ?_)
     |(with_reducible refine en ?_))
    go_ret
    refine ⟨v.ad,v.cap,?_,kin_shut (v:=v) (j:=j) HO.out HR.out rfl (hK.sub (.cons _ (.cons _ (.cons _ (List.Sublist.refl _)))))⟩
    rw [<-HV.out]
    rfl
   |false=>
    obtain rfl:v=nilInts:=by simpa using hv
    clear hv
    have HL:=Lib.hid (show 3+j*4+3<(kinCells k rs).length by rw [kin_len,HO.out.len];omega)
    go_enter Tryz.func151,Tryz.ntmps151
    go_wp2_with (first
     |((with_reducible refine wb 2 ?_)
       (refine wl_boxK hK rfl rfl rfl rfl ?_;clear hK;intro w2 b2 hK))
     |((with_reducible refine wb 3 ?_)
       (refine wl_boxK hK rfl rfl rfl rfl ?_;clear hK;intro w3 b3 hK))
     |((with_reducible refine wt 12 ?_);(refine wl_loadK hK rfl rfl rfl (scalT (by decide)) (hv:=HU.out) (h:=?_)))
     |((with_reducible refine wl_at (o:=⟨some 5,.alloc _,_,_,_,_⟩) ?_);(refine wl_allocK (z:=.pointer none) (zs:=[.pointer none]) hK rfl rfl (by kernel_rfl) rfl ?_;clear hK;intro w5 b5 hK))
     |((with_reducible refine wl_at (o:=⟨none,.store 218 _ _,_,_,_,_⟩) ?_);(refine wl_storeK (v:=.pointer (some ⟨p,3+j*4,none⟩)) hK rfl rfl rfl rfl (sizT (by decide)) rfl (h:=?_);clear hK;intro w6 hK;simp only [z0,z1] at hK))
     |(go_at_call 154
       replace hK:=hK.front 4
       simp only [List.eraseIdx_cons_succ,List.eraseIdx_cons_zero] at hK
       refine (on_first (off:=3+j*4) (R:=fun cs' M'=> ∃ ad cap,cs'=((kinCells k rs).set (3+j*4+1) (.int .i32 1)).set (3+j*4+3) (.slice ad (k.prof j).length cap)/\M'=[rOw 3 elInt (.slice ad (k.prof j).length cap) (k.prof j),rBlk b5 [.pointer (some ⟨p,3+j*4,none⟩)] 218,rMany (rs.map runRes)]) hK HC0.out HC1.out (fun w1 hK1=>(kn_places1 (n:=(j:Int)) HO.out.ok HN.out ?_ (by omega) ?_ ?_ hK1).mono ?_)).mono ?_
       · rw [List.take_set_of_le (by omega)];rfl
       · rw [List.length_set];exact HL.out
       · rw [List.getElem?_set_ne (by omega)];exact HC3.out
       · rintro e w2 ⟨rfl,ad,cap,hK2⟩
         have hL:=HL.out
         exact ⟨rfl,_,_,by rw [List.getElem?_set_ne (by omega),List.getElem?_set_ne (by omega)];exact HC0.out,by rw [List.getElem?_set_ne (by omega),List.getElem?_set_self (by omega)],⟨ad,cap,rfl,rfl⟩,hK2⟩
       rintro e w2 ⟨rfl,cs',M',⟨ad,cap,rfl,rfl⟩,hK2⟩
       clear hK
       have hjl:j<rs.length:=by rw [HO.out.len];omega
       have hset:=kin_set (k:=k) (v:=⟨ad,k.prof j,cap⟩) hjl
       simp only [Sv.val] at hset
       rw [hset] at hK2
       have HO2:=Lib.hid (HO.out.set (v:=⟨ad,k.prof j,cap⟩) hjl rfl)
       have hr2:(rs.set j ⟨true,⟨ad,k.prof j,cap⟩⟩)[j]?=some ⟨true,⟨ad,k.prof j,cap⟩⟩:=List.getElem?_set_self hjl
       have HR2:=Lib.hid hr2
       have HC3':=Lib.hid (kin_cell (k:=k) (i:=3) hr2 (by omega))
       have hK:=hK2
       clear hK2 hset hr2)
     |((with_reducible refine wt 36 ?_);(refine wl_loadK (k:=3+j*4+3) (v:=.slice ad (k.prof j).length cap) hK rfl rfl rfl (scalT (by decide)) (hv:=HC3'.out) (h:=?_)))
     |((with_reducible refine tx 3 hK ?_);clear hK;intro w' hK)
     |go_big_skip
     |go_big_skip
     |((with_reducible refine wl ?_);refine ldQ ?_)
     |(with_reducible refine en ?_))
    go_ret
    refine ⟨ad,cap,rfl,kin_shut (v:=⟨ad,k.prof j,cap⟩) (j:=j) HO2.out HR2.out rfl ?_⟩
    replace hK:=hK.order [1,3,0,2]
    simp only [List.filterMap_cons,List.filterMap_nil,List.getElem?_cons_succ,List.getElem?_cons_zero,List.length_cons,List.length_nil,Nat.reduceAdd,List.drop_succ_cons,List.drop_zero,List.cons_append,List.nil_append] at hK
    have hK2:=hK.setMany j
    unfold rKn
    rw [List.map_set]
    exact hK2.sub (.cons_cons _ (.cons_cons _ (.cons _ .slnil)))
 · have HN:=Lib.hid hn
   clear hok
   simp only [rKn] at hK
   go_enter Tryz.func151,Tryz.ntmps151
   have hn2:n<1\/(1<=n/\16<n):=by omega
   clear hn
   rcases hn2 with hn|⟨hn,hn2⟩
   · have d1:decide (n<1)=true:=decide_eq_true hn
     go_wp2_with (first
      |((with_reducible refine wb 2 ?_)
        (refine wl_boxK hK rfl rfl rfl rfl ?_;clear hK;intro w2 b2 hK))
      |((with_reducible refine wb 3 ?_)
        (refine wl_boxK hK rfl rfl rfl rfl ?_;clear hK;intro w3 b3 hK))
      |((with_reducible refine wt 12 ?_);(refine wl_loadK hK rfl rfl rfl (scalT (by decide)) (hv:=HU.out) (h:=?_)))
      |go_big_skip
      |go_big_skip
      |((with_reducible refine wl ?_);refine ldQ ?_)
      |(with_reducible refine en ?_))
     go_ret
     refine ⟨none,0,?_,kin_shut0 HO.out HN.out (hK.sub (.cons _ (.cons _ (List.Sublist.refl _))))⟩
     rw [KinP.prof_off HN.out]
     rfl
   · have d1:decide (n<1)=false:=decide_eq_false (by omega)
     have d2:decide (16<n)=true:=decide_eq_true hn2
     go_wp2_with (first
      |((with_reducible refine wb 2 ?_)
        (refine wl_boxK hK rfl rfl rfl rfl ?_;clear hK;intro w2 b2 hK))
      |((with_reducible refine wb 3 ?_)
        (refine wl_boxK hK rfl rfl rfl rfl ?_;clear hK;intro w3 b3 hK))
      |((with_reducible refine wt 12 ?_);(refine wl_loadK hK rfl rfl rfl (scalT (by decide)) (hv:=HU.out) (h:=?_)))
      |go_big_skip
      |go_big_skip
      |((with_reducible refine wl ?_);refine ldQ ?_)
      |(with_reducible refine en ?_))
     go_ret
     refine ⟨none,0,?_,kin_shut0 HO.out HN.out (hK.sub (.cons _ (.cons _ (List.Sublist.refl _))))⟩
     rw [KinP.prof_off HN.out]
     rfl
theorem kn_time {k:KinP} {p:Nat} {n:Int} {w:World} {S:Nat->Prop} (h:(rKIN k p).p w S):Calls Tryz.prog 139 #[.pointer (some ⟨p,0,none⟩),.int .i64 n] w fun e w'=>e=.returned (.int .i64 (k.time n))/\Turn (rKIN k p) w w' S:=by
 have hK:Know w w S [rKIN k p] []:=Know.start1 h (by simp)
 have kP:=Lib.hid (fun (W:World) (S:Nat->Prop) (h:(rKIN k p).p W S)=>kn_places (n:=n) h)
 clear h
 go_enter Tryz.func139,Tryz.ntmps139
 go_wp2_with (first
  |(go_at_call 151
    obtain ⟨S1,h1,h2⟩:=hK.stepI .head
    refine (kP.out _ _ h1).mono ?_
    rintro e w' ⟨ad,cap,rfl,hT⟩
    replace hK:=h2 _ _ hT
    clear h1 h2 hT
    simp only [List.set_cons_zero] at hK)
  |go_big_skip
  |go_big_skip
  |((with_reducible refine wl ?_);refine ldQ ?_)
  |(with_reducible refine en ?_))
 go_ret
 exact ⟨rfl,(hK.seen (fun w S h=>kinAt_kin h) .head).turn⟩
set_option maxHeartbeats 1000000 in
theorem kn_at {k:KinP} {p:Nat} {n t:Int} {w:World} {S:Nat->Prop} (h:(rKIN k p).p w S):Calls Tryz.prog 140 #[.pointer (some ⟨p,0,none⟩),.int .i64 n,.int .i64 t] w fun e w'=>
 e=.returned (.int .i64 (if t<1\/(k.prof n).length=0 then 0 else k.place n (min t (k.prof n).length).toNat))/\Turn (rKIN k p) w w' S:=by
 have hok:k.Ok:=by obtain ⟨rs,h1,_⟩:=rKIN_p.1 h;exact h1.ok
 have hK:Know w w S [rKIN k p] []:=Know.start1 h (by simp)
 have kP:=Lib.hid (fun (W:World) (S:Nat->Prop) (h:(rKIN k p).p W S)=>kn_places (n:=n) h)
 have hl:=KinP.prof_len hok n
 clear h
 obtain ⟨N,hN⟩: ∃ N,(k.prof n).length=N:=⟨_,rfl⟩
 obtain ⟨V,hV⟩: ∃ V,(if t<1\/(k.prof n).length=0 then 0 else k.place n (min t (k.prof n).length).toNat)=V:=⟨_,rfl⟩
 rw [hV]
 rw [hN] at kP hl hV
 have HN:=Lib.hid hN
 have HV:=Lib.hid hV
 clear hN hV
 go_enter Tryz.func140,Tryz.ntmps140
 by_cases h0:t<1
 · have d0:decide (t<1)=true:=decide_eq_true h0
   have HZ:=Lib.hid (show 0=V by rw [<-HV.out,if_pos (.inl h0)])
   clear h0
   go_wp2_with (first
    |(go_at_call 151
      obtain ⟨S1,h1,h2⟩:=hK.stepI .head
      refine (kP.out _ _ h1).mono ?_
      rintro e w' ⟨ad,cap,rfl,hT⟩
      replace hK:=h2 _ _ hT
      clear h1 h2 hT
      simp only [List.set_cons_zero] at hK)
    |go_big_skip
    |go_big_skip
    |((with_reducible refine wl ?_);refine ldQ ?_)
    |(with_reducible refine en ?_))
   go_ret
   exact ⟨by rw [<-HZ.out];rfl,(hK.seen (fun w S h=>kinAt_kin h) .head).turn⟩
 · have d0:decide (t<1)=false:=decide_eq_false h0
   by_cases h1:N=0
   · subst h1
     have HZ:=Lib.hid (show 0=V by rw [<-HV.out,if_pos (.inr rfl)])
     clear h0
     go_wp2_with (first
     |(go_at_call 151
       obtain ⟨S1,h1,h2⟩:=hK.stepI .head
       refine (kP.out _ _ h1).mono ?_
       rintro e w' ⟨ad,cap,rfl,hT⟩
       replace hK:=h2 _ _ hT
       clear h1 h2 hT
       simp only [List.set_cons_zero] at hK)
      |go_big_skip
      |go_big_skip
      |((with_reducible refine wl ?_);refine ldQ ?_)
      |(with_reducible refine en ?_))
     go_ret
     exact ⟨by rw [<-HZ.out];rfl,(hK.seen (fun w S h=>kinAt_kin h) .head).turn⟩
   · obtain ⟨m,hm⟩: ∃ m:Nat,min t (N:Int)=(m:Int)+1:=⟨(min t (N:Int) - 1).toNat,by omega⟩
     obtain ⟨x,hx⟩: ∃ x,(k.prof n)[m]?=some x:=⟨_,List.getElem?_eq_getElem (by rw [HN.out];omega)⟩
     have HX:=Lib.hid hx
     have d1:((N:Int) == 0)=false:=beq_eq_false_iff_ne.2 (by omega)
     have d1':decide ((N:Int)=0)=false:=decide_eq_false (by omega)
     have HZ:=Lib.hid (show x=V by
      rw [<-HV.out,if_neg (by omega),hm]
      unfold KinP.place
      rw [List.getD_eq_getElem?_getD,show ((m:Int)+1).toNat - 1=m by omega,HX.out]
      rfl)
     have HM:=Lib.hid hm
     have hm3:=Lib.hid (show min t (N:Int) - 1=(m:Int) by omega)
     clear hx hm h1
     go_wp2_with (first
     |(go_at_call 151
       obtain ⟨S1,h1,h2⟩:=hK.stepI .head
       refine (kP.out _ _ h1).mono ?_
       rintro e w' ⟨ad,cap,rfl,hT⟩
       replace hK:=h2 _ _ hT
       clear h1 h2 hT
       simp only [List.set_cons_zero] at hK)
      |((with_reducible refine wt 24 ?_)
        (refine wl_ix (i:=m) (xs:=k.prof n) (u:=x) rfl rfl rfl (show Value.int .i64 (min t (N:Int) - 1)=.int .i64 (m:Int) by rw [hm3.out]) intTy.und intTy.size (by have h:=Has.kinRd (hK.own (r:=rKINat k p n ad cap));rw [HN.out] at h;exact h) HX.out (fun b24 k24 hat24 _=>?_)))
      |((with_reducible refine wl_at (o:=⟨_,.call {callee:=.builtin .min,args:= #[_,_],argTypes:=_},_,_,_,_⟩) ?_);refine wl_min2 rfl rfl rfl rfl ?_)
      |((with_reducible refine wl_at (o:=⟨_,.call {callee:=.builtin .max,args:= #[_,_],argTypes:=_},_,_,_,_⟩) ?_);refine wl_max2 rfl rfl rfl rfl ?_)
      |((with_reducible refine wl_at (o:=⟨_,.call {callee:=.builtin .min,args:= #[_,_,_],argTypes:=_},_,_,_,_⟩) ?_);refine wl_min3 rfl rfl rfl rfl rfl ?_)
      |go_big_skip
      |go_big_skip
      |((with_reducible refine wl ?_);refine ldQ ?_)
      |(with_reducible refine en ?_))
     go_ret
     refine ⟨by rw [<-HZ.out];rfl,(hK.seen (fun w S h=>kinAt_kin h) .head).turn⟩
end Go.Proofs.YtngeeilkpnihmaaGreatDoor
namespace Go.Proofs.YtngeeilkpnihmaaGreatDoor
open Go Go.Sk Go.RowKit
set_option maxRecDepth 100000
theorem Has.kinH {k:KinP} {p:Nat} {w:World} (h:Has w (rKIN k p)):At w p 0 (kinH k):=by
 obtain ⟨S,h⟩:=h
 obtain ⟨rs,hok,h⟩:=rKIN_p.1 h
 exact kin_at (Has.blk (h.has (r:=rBlk p (kinCells k rs) 166) (by simp [rKn]))) kin_take
theorem Has.kinOk {k:KinP} {p:Nat} {w:World} (h:Has w (rKIN k p)):k.Ok:=by
 obtain ⟨S,h⟩:=h
 obtain ⟨rs,hok,h⟩:=rKIN_p.1 h
 exact hok.ok
def atV (k:KinP) (n t:Int):Int:=if t<1\/(k.prof n).length=0 then 0 else k.place n (min t (k.prof n).length).toNat
def speedV (k:KinP) (n t:Int):Int:=if t<1 then 0 else atV k n t - atV k n (t - 1)
theorem place_bd {k:KinP} (hk:k.Ok) (n:Int) (t:Nat):0<=k.place n t/\k.place n t<=16000:=by
 unfold KinP.place
 rw [List.getD_eq_getElem?_getD]
 cases h:(k.prof n)[t - 1]? with
 |none=>simp
 |some x=>
  have hm:=List.mem_of_getElem? h
  by_cases hn:1<=n/\n<=16
  · rw [KinP.prof_on hn] at hm
    have h1:=KinP.far hk hn
    have:=stepsP_more (a:=k.accel) (e:=n*k.unit) hk.a1 (n*k.unit).toNat k.speed 0 0 x (Int.le_refl _) hk.s1 (by omega) hm
    simp
    omega
  · rw [KinP.prof_off hn] at hm
    cases hm
theorem atV_bd {k:KinP} (hk:k.Ok) (n t:Int):0<=atV k n t/\atV k n t<=16000:=by
 unfold atV
 split
 · omega
 · exact place_bd hk n _
theorem kn_atV {k:KinP} {p:Nat} {n t:Int} {w:World} {S:Nat->Prop} (h:(rKIN k p).p w S):Calls Tryz.prog 140 #[.pointer (some ⟨p,0,none⟩),.int .i64 n,.int .i64 t] w fun e w'=>e=.returned (.int .i64 (atV k n t))/\Turn (rKIN k p) w w' S:=kn_at h
theorem kn_speed {k:KinP} {p:Nat} {n t:Int} {w:World} {S:Nat->Prop} (h:(rKIN k p).p w S) (ht2:t<=9223372036854775807):Calls Tryz.prog 141 #[.pointer (some ⟨p,0,none⟩),.int .i64 n,.int .i64 t] w fun e w'=>e=.returned (.int .i64 (speedV k n t))/\Turn (rKIN k p) w w' S:=by
 have hok:k.Ok:=Has.kinOk ⟨S,h⟩
 have hK:Know w w S [rKIN k p] []:=Know.start1 h (by simp)
 clear h
 obtain ⟨a1,ha1⟩: ∃ a1,atV k n t=a1:=⟨_,rfl⟩
 obtain ⟨a2,ha2⟩: ∃ a2,atV k n (t - 1)=a2:=⟨_,rfl⟩
 have k1:=Lib.hid (fun (W:World) (S:Nat->Prop) (h:(rKIN k p).p W S)=>kn_atV (n:=n) (t:=t) h)
 have k2:=Lib.hid (fun (W:World) (S:Nat->Prop) (h:(rKIN k p).p W S)=>kn_atV (n:=n) (t:=t - 1) h)
 have b1:=atV_bd hok n t
 have b2:=atV_bd hok n (t - 1)
 rw [ha1] at k1 b1
 rw [ha2] at k2 b2
 obtain ⟨b10,b11⟩:=b1
 obtain ⟨b20,b21⟩:=b2
 unfold speedV
 rw [ha1,ha2]
 clear ha1 ha2
 by_cases ht:t<1
 · go_enter Tryz.func141,Tryz.ntmps141
   go_wp2_with (first
    |go_big_skip
    |go_big_skip
    |((with_reducible refine wl ?_);refine ldQ ?_)
    |(with_reducible refine en ?_))
   go_ret
   first|exact ⟨rfl,hK.turn⟩|exact ⟨by rw [if_pos ht];rfl,hK.turn⟩
 · have ht1: -9223372036854775808<=t - 1:=by omega
   go_enter Tryz.func141,Tryz.ntmps141
   have d0:decide (t<1)=false:=decide_eq_false ht
   go_wp2_with (first
    |(go_at_call 140;first
       |(with_reducible refine (hK.callsI (fun S hS=>k1.out _ _ hS)).mono ?_;clear hK k1;rintro e w' ⟨rfl,hK⟩;simp only [z0,z1] at hK)
       |(with_reducible refine (hK.callsI (fun S hS=>k2.out _ _ hS)).mono ?_;clear hK;rintro e w' ⟨rfl,hK⟩;simp only [z0,z1] at hK))
    |go_big_skip
    |go_big_skip
    |((with_reducible refine wl ?_);refine ldQ ?_)
    |(with_reducible refine en ?_))
   go_ret
   first|exact ⟨rfl,hK.turn⟩|exact ⟨by rw [if_neg ht];rfl,hK.turn⟩
set_option maxHeartbeats 4000000 in
theorem kn_stop {k:KinP} {p:Nat} {n t:Int} {w:World} {S:Nat->Prop} (h:(rKIN k p).p w S):Calls Tryz.prog 121 #[.pointer (some ⟨p,0,none⟩),.int .i64 n,.int .i64 t] w fun e w'=>
 e=.returned (.tuple #[.int .i64 (k.stop n t).1,.int .i64 (k.stop n t).2])/\Turn (rKIN k p) w w' S:=by
 have hok:k.Ok:=Has.kinOk ⟨S,h⟩
 have hK:Know w w S [rKIN k p] []:=Know.start1 h (by simp)
 clear h
 have hl:=KinP.prof_len hok n
 have kT:=Lib.hid (fun (W:World) (S:Nat->Prop) (h:(rKIN k p).p W S)=>kn_time (n:=n) h)
 obtain ⟨N,hN⟩: ∃ N,(k.prof n).length=N:=⟨_,rfl⟩
 have hT:k.time n=(N:Int):=by unfold KinP.time;rw [hN]
 rw [hT] at kT
 rw [hN] at hl
 clear hT
 by_cases h0:t<1\/N=0
 · have hs:k.stop n t=(0,0):=by unfold KinP.stop;rw [if_pos (by rw [hN];exact h0)]
   rw [hs]
   clear hN hs
   by_cases h1:t<1
   · have d1:decide (t<1)=true:=decide_eq_true h1
     clear h0 h1
     refine calls_marks Tryz.func121 rfl ?_
     simp only [Tryz.ntmps121,List.size_toArray,List.length_cons,List.length_nil,Nat.reduceAdd,Nat.reduceSub,Array.replicate_succ,Array.replicate_zero,List.push_toArray,List.append_toArray,List.nil_append,List.cons_append]
     go_wp2_with (first
      |(go_at_call 139;(refine (hK.callsI (fun S hS=>kT.out _ _ hS)).mono ?_;clear hK;rintro e w' ⟨rfl,hK⟩;simp only [z0,z1] at hK))
      |go_big_skip
      |go_big_skip
      |((with_reducible refine wl ?_);refine ldQ ?_)
      |(with_reducible refine en ?_))
     exact leaves_nil (results_tmp2 rfl _ _ _) ⟨rfl,hK.turn⟩
   · have d1:decide (t<1)=false:=decide_eq_false h1
     have hz:N=0:=h0.resolve_left h1
     subst hz
     clear h0 h1
     refine calls_marks Tryz.func121 rfl ?_
     simp only [Tryz.ntmps121,List.size_toArray,List.length_cons,List.length_nil,Nat.reduceAdd,Nat.reduceSub,Array.replicate_succ,Array.replicate_zero,List.push_toArray,List.append_toArray,List.nil_append,List.cons_append]
     go_wp2_with (first
      |(go_at_call 139;(refine (hK.callsI (fun S hS=>kT.out _ _ hS)).mono ?_;clear hK;rintro e w' ⟨rfl,hK⟩;simp only [z0,z1] at hK))
      |go_big_skip
      |go_big_skip
      |((with_reducible refine wl ?_);refine ldQ ?_)
      |(with_reducible refine en ?_))
     exact leaves_nil (results_tmp2 rfl _ _ _) ⟨rfl,hK.turn⟩
 · obtain ⟨h1,h2⟩: ¬ t<1/\ ¬ N=0:=⟨fun e=>h0 (.inl e),fun e=>h0 (.inr e)⟩
   have d1:decide (t<1)=false:=decide_eq_false h1
   have d2:((N:Int) == 0)=false:=beq_eq_false_iff_ne.2 (by omega)
   have d2':decide ((N:Int)=0)=false:=decide_eq_false (by omega)
   by_cases h3:(N:Int)<=t
   · have hs:k.stop n t=(n,0):=by unfold KinP.stop;rw [if_neg (by rw [hN];exact h0),if_pos (by rw [hN];exact h3)]
     rw [hs]
     have d3:decide ((N:Int)<=t)=true:=decide_eq_true h3
     have d3':decide (t>=(N:Int))=true:=decide_eq_true h3
     clear hN hs h0 h3
     refine calls_marks Tryz.func121 rfl ?_
     simp only [Tryz.ntmps121,List.size_toArray,List.length_cons,List.length_nil,Nat.reduceAdd,Nat.reduceSub,Array.replicate_succ,Array.replicate_zero,List.push_toArray,List.append_toArray,List.nil_append,List.cons_append]
     go_wp2_with (first
      |(go_at_call 139;(refine (hK.callsI (fun S hS=>kT.out _ _ hS)).mono ?_;clear hK;rintro e w' ⟨rfl,hK⟩;simp only [z0,z1] at hK))
      |go_big_skip
      |go_big_skip
      |((with_reducible refine wl ?_);refine ldQ ?_)
      |(with_reducible refine en ?_))
     exact leaves_nil (results_tmp2 rfl _ _ _) ⟨rfl,hK.turn⟩
   · have d3:decide ((N:Int)<=t)=false:=decide_eq_false h3
     have d3':decide (t>=(N:Int))=false:=decide_eq_false h3
     obtain ⟨hn,g1,g2,g3,g4⟩:=KinP.mid hok (n:=n) (t:=t.toNat) (by omega) (by rw [hN];omega)
     obtain ⟨c1,c2,c3⟩:=KinP.cells_is hok (n:=n) (t:=t.toNat) (by omega) (by rw [hN];omega)
     have hpl:=place_bd hok n t.toNat
     have hbr:=brakeP_le (a:=k.accel) (s:=k.pace n t.toNat) hok.a1 (by have:=hok.s2;omega)
     obtain ⟨pl,hpl0⟩: ∃ pl,k.place n t.toNat=pl:=⟨_,rfl⟩
     obtain ⟨pc,hpc0⟩: ∃ pc,k.pace n t.toNat=pc:=⟨_,rfl⟩
     obtain ⟨cl,hcl0⟩: ∃ cl,k.cells n t.toNat=cl:=⟨_,rfl⟩
     obtain ⟨br,hbr0⟩: ∃ br,brakeP k.accel pc=br:=⟨_,rfl⟩
     have hmul:cl*k.unit<=n*k.unit:=by rw [<-hcl0];exact Int.mul_le_mul_of_nonneg_right c2 (by have:=hok.u1;omega)
     have hfar:=KinP.far hok hn
     have hclq:(pl+br+k.unit - 1) / k.unit=cl:=by rw [<-hcl0,<-hpl0,<-hbr0,<-hpc0];rfl
     rw [hpc0,hbr0] at hbr
     rw [hpl0,hpc0,hbr0] at g4
     rw [hpl0] at g1 hpl
     rw [hpc0] at g2 g3
     rw [hcl0] at c1 c2
     obtain ⟨X,hX⟩: ∃ X,stepsP true k.accel pc (cl*k.unit) pl pc=X:=⟨_,rfl⟩
     have hXl:X.length<=16000:=by
      have:=stepsP_len (falls:=true) (a:=k.accel) (e:=cl*k.unit) hok.a1 (cl*k.unit - pl).toNat pc pl pc (by omega) (by omega) (by omega)
      rw [hX] at this
      omega
     have hs:k.stop n t=(cl,(X.length:Int)):=by
      unfold KinP.stop
      rw [if_neg (by rw [hN];exact h0),if_neg (by rw [hN];exact h3),hpl0,hpc0,hcl0,hX]
     rw [hs]
     have kA:=Lib.hid (fun (W:World) (S:Nat->Prop) (h:(rKIN k p).p W S)=>kn_atV (n:=n) (t:=t) h)
     rw [show atV k n t=pl by unfold atV;rw [if_neg (by rw [hN];exact h0),hN,show min t (N:Int)=t by omega,hpl0]] at kA
     have kS:=Lib.hid (fun (W:World) (S:Nat->Prop) (h:(rKIN k p).p W S)=>kn_speed (n:=n) (t:=t) h (by omega))
     rw [show speedV k n t=pc by
      unfold speedV
      rw [if_neg h1,<-hpc0]
      unfold atV KinP.pace
      rw [if_neg (by rw [hN];exact h0),hN,show min t (N:Int)=t by omega]
      by_cases ht1:t=1
      · subst ht1;rw [if_pos (.inl (by decide))];rfl
      · rw [if_neg (by omega),if_neg (by omega),show min (t - 1) (N:Int)=t - 1 by omega,show (t - 1).toNat=t.toNat - 1 by omega]] at kS
     have kB:=Lib.hid (fun (W:World) (h:At W p 0 (kinH k))=>kn_brake (s:=pc) hok h)
     rw [brakeV_in (by omega) g3,hbr0] at kB
     have HX:=Lib.hid hX
     have HK:=Lib.hid hok
     have hu1:=hok.u1
     have hu2:=hok.u2
     have HCL:=Lib.hid hclq
     obtain ⟨E,hE⟩: ∃ E,cl*k.unit=E:=⟨_,rfl⟩
     rw [hE] at HX hmul
     have hE2:E<=16000:=by omega
     have hW:wrap64 (cl*k.unit)=E:=by
      rw [hE]
      have:1*1<=cl*k.unit:=Int.mul_le_mul c1 hu1 (by omega) (by omega)
      unfold wrap64
      omega
     have HW:=Lib.hid hW
     obtain ⟨g40,g41⟩:=hpl
     obtain ⟨hb0,hb1⟩:=hbr
     clear hN hs h0 h3 hpl0 hpc0 hcl0 hbr0 hX hok hclq g4 c3 hW hE
     refine calls_marks Tryz.func121 rfl ?_
     simp only [Tryz.ntmps121,List.size_toArray,List.length_cons,List.length_nil,Nat.reduceAdd,Nat.reduceSub,Array.replicate_succ,Array.replicate_zero,List.push_toArray,List.append_toArray,List.nil_append,List.cons_append]
     go_wp2_with (first
      |(go_at_call 139;(refine (hK.callsI (fun S hS=>kT.out _ _ hS)).mono ?_;clear hK;rintro e w' ⟨rfl,hK⟩;simp only [z0,z1] at hK))
      |(go_at_call 140;(refine (hK.callsI (fun S hS=>kA.out _ _ hS)).mono ?_;clear hK;rintro e w' ⟨rfl,hK⟩;simp only [z0,z1] at hK))
      |(go_at_call 141;(refine (hK.callsI (fun S hS=>kS.out _ _ hS)).mono ?_;clear hK;rintro e w' ⟨rfl,hK⟩;simp only [z0,z1] at hK))
      |(go_at_call 142;(refine (hK.quiet (kB.out _ (Has.kinH (hK.own (r:=rKIN k p))))).mono ?_;clear hK;rintro e w' ⟨rfl,hK⟩))
      |((with_reducible refine wp_region_stableK (id:=7) hK [8,14] [rKIN k p] (by kernel_rfl) (by kernel_rfl) (by simp) (by kernel_rfl) ?_);clear hK;intro w' hK)
      |(with_reducible refine wpC_of ?_)
      |(with_reducible refine atEndC (hK.cls (by simp)) ?_)
      |((with_reducible refine wpC_end' ?_);refine wpC_nil ⟨by kernel_rfl,stays_load rfl rfl rfl rfl (scalT (by decide)) rfl (fun W hW=>(Has.kinH (hW (rKIN k p) (by simp))).cell (j:=0) rfl) (stays_load rfl rfl rfl rfl (scalT (by decide)) rfl (fun W hW=>(Has.kinH (hW (rKIN k p) (by simp))).cell (j:=0) rfl) stays_nil),?_⟩)
      |((with_reducible refine wl_at (o:=⟨_,.load 3 _,_,_,_,_⟩) ?_);refine wl_loadA (b:=p) (k:=0) (j:=0) (hat:=Has.kinH (hK.own (r:=rKIN k p))) rfl rfl rfl (scalT (by decide)) (h:=?_))
      |((with_reducible refine wl_at (o:=⟨some 12,.alloc _,_,_,_,_⟩) ?_);(refine wl_allocK (z:=.int .i64 0) (zs:=[.int .i64 0]) hK rfl rfl (by kernel_rfl) rfl ?_;clear hK;intro w12 b12 hK))
      |((with_reducible refine wl_at (o:=⟨none,.store 3 _ _,_,_,_,_⟩) ?_);(refine wl_storeK (v:=.int .i64 0) hK rfl rfl rfl rfl (sizT (by decide)) rfl (h:=?_);clear hK;intro w13 hK;simp only [z0,z1] at hK))
      |(go_at_call 143;(refine kn_steps.mono ?_;rintro e w' ⟨bf,be,bs,bp,bk,rfl,hT⟩;replace hK:=hK.push hT;simp only [stepBx,List.cons_append,List.nil_append] at hK;clear hT))
      |go_big_skip
      |go_big_skip
      |((with_reducible refine wl ?_);refine ldQ ?_)
      |(with_reducible refine en ?_))
     simp only [HCL.out,HW.out] at hK ⊢
     refine wp_rangeFuncK hK rfl (enters_of Tryz.func152 (by kernel_rfl) rfl) ?_
     clear hK
     intro fn D l w1 hK
     generalize hrec:recOf fn _ _ _ _ D .ready none=rec at hK ⊢
     replace hK:=hK.order [2,3,4,5,6,7,0,8,1]
     simp only [List.filterMap_cons,List.filterMap_nil,List.getElem?_cons_succ,List.getElem?_cons_zero,List.length_cons,List.length_nil,Nat.reduceAdd,List.drop_succ_cons,List.drop_zero,List.cons_append,List.nil_append] at hK
     refine (kn_steps1 HK.out (X:=X) (B:=fun pre=>[rBlk b12 [.int .i64 (pre.length:Nat)] 3,rObj l (.loop rec),rKIN k p]) (M:=[rObj D (.deferred (some []))])
      (falls:=true) (place:=pl) (speed:=pc) (end_:=E) g40 hE2 (by omega) g3 (fun _=>g2) HX.out ?_ ?_ hK).mono ?_
     · intro W pre M0 h
       exact Has.kinH (h.own (r:=rKIN k p) (i:=2) (.tail (.tail .head)))
     · intro pre x W M0 hpre hK
       have hpl:pre.length<16000:=by
        have h1:=hpre.length_le
        simp at h1
        omega
       simp only [List.cons_append,List.nil_append] at hK
       subst hrec
       refine yields_of1 (hK.front 1) rfl rfl ?_
       clear hpre
       refine wpIn_skip ?_
       refine ⟨_,hK.front 1,fun w2 hK=>?_⟩
       simp only [List.eraseIdx_cons_succ,List.eraseIdx_cons_zero] at hK
       refine wpIn_block ?_
       refine wpIn_region_rnd (by kernel_rfl) ?_
       go_wp2_with (first
        |((with_reducible refine wl_at (o:=⟨none,.store 3 _ _,_,_,_,_⟩) ?_);(refine wl_storeK (v:=.int .i64 (pre.length+1)) hK rfl rfl rfl rfl (sizT (by decide)) rfl (hk:=by exact Nat.succ_pos _) (h:=?_);clear hK;intro w13 hK;simp only [z0,z1] at hK))
        |(with_reducible refine stay_normal ?_)
        |go_big_skip
        |go_big_skip
        |((with_reducible refine wl ?_);refine ldQ ?_)
        |(with_reducible refine en ?_))
       refine ⟨_,hK,fun w' hK=>⟨rfl,?_⟩⟩
       replace hK:=hK.order [1,0]
       simp only [List.filterMap_cons,List.filterMap_nil,List.getElem?_cons_succ,List.getElem?_cons_zero,List.length_cons,List.length_nil,Nat.reduceAdd,List.drop_succ_cons,List.drop_zero,List.cons_append,List.nil_append] at hK
       exact hK
     · rintro e w3 ⟨rfl,hK⟩
       subst hrec
       refine .inl ⟨_,hK.front 1,fun w4 hK=>?_⟩
       simp only [List.cons_append,List.nil_append,List.eraseIdx_cons_succ,List.eraseIdx_cons_zero] at hK
       go_wp2_with (first
        |((with_reducible refine tx 11 hK ?_);clear hK;intro w' hK)
        |go_big_skip
        |go_big_skip
        |((with_reducible refine wl ?_);refine ldQ ?_)
        |(with_reducible refine en ?_))
       refine leaves_mark hK (.tail (.tail .head)) fun w5 hK=>leaves_nil (results_tmp2 rfl _ _ _) ⟨rfl,?_⟩
       simp only [List.set_cons_succ,List.set_cons_zero] at hK
       exact (hK.sub (M':=[rKIN k p]) (.cons _ (.cons_cons _ (.cons _ .slnil)))).turn
end Go.Proofs.YtngeeilkpnihmaaGreatDoor
