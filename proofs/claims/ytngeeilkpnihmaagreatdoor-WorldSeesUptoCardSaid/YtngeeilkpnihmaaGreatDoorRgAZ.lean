/- Texts of mine that belong together: Rk1, Rk2. -/
import Derived.Test.YtngeeilkpnihmaaGreatDoorKnAZ
import Derived.Test.YtngeeilkpnihmaaGreatDoorRbCZ
set_option linter.all false
namespace Go.Proofs.YtngeeilkpnihmaaGreatDoor
open Go Go.Sk Go.RowKit
set_option maxRecDepth 100000
theorem kinH_one (k:KinP): ∀ v∈kinH k,v.oneCell'=true:=by
 intro v hv
 simp only [kinH,List.mem_cons,List.not_mem_nil,or_false] at hv
 rcases hv with rfl|rfl|rfl<;>rfl
set_option maxHeartbeats 1000000 in
theorem k9_brake {k:KinP} (hk:k.Ok) {s:Int} {w:World} (h0: -1000<=s) (h1:s<=1000):Calls Tryz.prog 147 #[.agg (kinH k).toArray,.int .i64 s] w (Ret (.int .i64 (brakeP k.accel s)) w):=by
 have hK:Know w w none' [] []:=Know.start (L:=[]) w (by simp)
 obtain ⟨T,hT⟩: ∃ T,brakeP k.accel s=T:=⟨_,rfl⟩
 have HT:=Lib.hid hT
 have hb:=brakeP_le (a:=k.accel) (s:=s) hk.a1 h1
 have hb1:T<=1000000:=by rw [<-hT];exact hb.2
 rw [hT]
 have ha:=hk.a1
 have ha2:=hk.a2
 clear hT hb
 go_enter Tryz.func147,Tryz.ntmps147
 go_wp2_with (first
  |((with_reducible refine wb 2 ?_);(refine wl_boxK (zs:=kinH k) hK rfl rfl rfl rfl ?_;clear hK;intro w2 b2 hK))
  |go_big_skip
  |go_big_skip
  |((with_reducible refine wl ?_);refine ldQ ?_)
  |(with_reducible refine en ?_))
 go_loopg [1,5] (3000+(s - k.accel)).toNat (fun m t1 t5 wr=> ∃ sum v:Int,t5=.int .i64 sum/\t1=.int .i64 v/\m=(3000+v).toNat/\sum+sumDown k.accel v=T/\0<=sum/\ -3000<=v/\v<=1000/\Know w wr none' [rBlk b2 (kinH k) 176] [])
 case atStart=>
  refine ⟨0,s - k.accel,rfl,by go_num,rfl,?_,by omega,by omega,by omega,hK⟩
  rw [<-HT.out]
  unfold brakeP
  omega
 case round=>
  clear hK
  obtain ⟨sum,v,rfl,rfl,rfl,hs,h2,h3,h4,hK⟩:=hrel
  by_cases hv:0<v
  · have hp:=sumDown_pos (a:=k.accel) (by omega) hv
    have hq:=sumDown_le (a:=k.accel) (by omega) 1000 (v - k.accel) (by omega)
    have hsum:sum+v<=1000000:=by omega
    have HS:=Lib.hid (show sum+v+sumDown k.accel (v - k.accel)=T by omega)
    clear hs hp hq
    go_wp2_with (first
     |go_big_skip
     |go_big_skip
     |((with_reducible refine wl ?_);refine ldQ ?_)
     |(with_reducible refine en ?_))
    go_roundg (3000+(v - k.accel)).toNat
    case measure=>omega
    case rel=>exact ⟨sum+v,v - k.accel,by go_num,by go_num,rfl,HS.out,by omega,by omega,by omega,hK⟩
  · have hz:=sumDown_not (a:=k.accel) hv
    have HS:=Lib.hid (show sum=T by omega)
    clear hs hz
    go_wp2_with (first
     |go_big_skip
     |go_big_skip
     |((with_reducible refine wl ?_);refine ldQ ?_)
     |(with_reducible refine en ?_))
    go_ret
    exact ⟨by rw [HS.out];rfl,hK.mod⟩
set_option maxHeartbeats 2000000 in
theorem k9_next {k:KinP} (hk:k.Ok) {r s v:Int} {w:World} (hr:1<=r) (hr2:r<=100000) (hs:0<=s) (hs2:s<=1000) (hv:1<=v) (hv2:v<=1000):Calls Tryz.prog 148 #[.agg (kinH k).toArray,.int .i64 r,.int .i64 s,.int .i64 v] w (Ret (.int .i64 (nextP k.accel r s v)) w):=by
 have hK:Know w w none' [] []:=Know.start (L:=[]) w (by simp)
 obtain ⟨T,hT⟩: ∃ T,nextP k.accel r s v=T:=⟨_,rfl⟩
 rw [hT]
 have ha:=hk.a1
 have ha2:=hk.a2
 have HK:=Lib.hid hk
 obtain ⟨q0,hq0⟩: ∃ q0,min (min (s+k.accel) v) r=q0:=⟨_,rfl⟩
 have HT:=Lib.hid (show nextDown k.accel r q0=T by rw [<-hq0];exact hT)
 have hc:(q0=s+k.accel/\ ¬ v<s+k.accel/\ ¬ r<s+k.accel)\/(q0=v/\v<s+k.accel/\ ¬ r<v)\/(q0=r/\v<s+k.accel/\r<v)\/(q0=r/\ ¬ v<s+k.accel/\r<s+k.accel):=by omega
 clear hT hk hq0
 go_enter Tryz.func148,Tryz.ntmps148
 rcases hc with ⟨e,c1,c2⟩|⟨e,c1,c2⟩|⟨e,c1,c2⟩|⟨e,c1,c2⟩
 all_goals
  go_wp2_with (first
   |((with_reducible refine wb 4 ?_);(refine wl_boxK (zs:=kinH k) hK rfl rfl rfl rfl ?_;clear hK;intro w4 b4 hK))
   |go_big_skip
   |go_big_skip
   |((with_reducible refine wl ?_);refine ldQ ?_)
   |(with_reducible refine en ?_))
  go_loopg [9] 2001 (fun m t9 wr=> ∃ q:Int,t9=.int .i64 q/\q<=(m:Int)/\nextDown k.accel r q=T/\1<=q/\q<=2000/\q<=r/\q<=v/\Know w wr none' [rBlk b4 (kinH k) 176] [])
  case atStart=>exact ⟨q0,by rw [e],by omega,HT.out,by omega,by omega,by omega,by omega,hK⟩
  case round=>
   clear hK
   obtain ⟨q,rfl,hqm,hq,h1,h2,h3,h5,hK⟩:=hrel
   have kB:=Lib.hid (fun (W:World)=>k9_brake (w:=W) (s:=q) HK.out (by omega) (by omega))
   have hb:=brakeP_le (a:=k.accel) (s:=q) ha (by omega)
   obtain ⟨b,hbb⟩: ∃ b,brakeP k.accel q=b:=⟨_,rfl⟩
   rw [hbb] at kB hb
   obtain ⟨hb0,hb1⟩:=hb
   by_cases hg:1<q/\r - q<b
   · obtain ⟨g1,g2⟩:=hg
     have d1:decide (1<q)=true:=decide_eq_true g1
     have HQ:=Lib.hid (show nextDown k.accel r (q - 1)=T by rw [<-hq,nextDown_go ⟨g1,by rw [hbb];exact g2⟩])
     clear hq hbb
     go_wp2_with (first
      |((with_reducible refine ws 25 ?_);(refine wl_loadSK hK rfl rfl rfl (aggT (by decide)) (h:=?_)))
      |(go_at_call 147;(refine (hK.quiet (kB.out _)).mono ?_;clear hK;rintro e w' ⟨rfl,hK⟩))
      |go_big_skip
      |go_big_skip
      |((with_reducible refine wl ?_);refine ldQ ?_)
      |(with_reducible refine en ?_))
     go_roundg (q - 1).toNat
     case measure=>omega
     case rel=>exact ⟨q - 1,by go_num,by omega,HQ.out,by omega,by omega,by omega,by omega,hK⟩
   · have HQ:=Lib.hid (show q=T by rw [<-hq,nextDown_end (by rw [hbb];exact hg)])
     clear hq hbb
     by_cases g1:1<q
     · have g2: ¬ (r - q<b):=fun e=>hg ⟨g1,e⟩
       clear hg
       go_wp2_with (first
        |(go_at_call 147;(refine (hK.quiet (kB.out _)).mono ?_;clear hK;rintro e w' ⟨rfl,hK⟩))
        |go_big_skip
        |go_big_skip
        |((with_reducible refine wl ?_);refine ldQ ?_)
        |(with_reducible refine en ?_))
       go_ret
       exact ⟨by rw [HQ.out];rfl,hK.mod⟩
     · clear hg
       go_wp2_with (first
        |go_big_skip
        |go_big_skip
        |((with_reducible refine wl ?_);refine ldQ ?_)
        |(with_reducible refine en ?_))
       go_ret
       exact ⟨by rw [HQ.out];rfl,hK.mod⟩
end Go.Proofs.YtngeeilkpnihmaaGreatDoor
namespace Go.Proofs.YtngeeilkpnihmaaGreatDoor
open Go Go.Sk Go.RowKit
set_option maxRecDepth 100000
theorem k9_may {k:KinP} (hk:k.Ok) {w:World}:Calls Tryz.prog 149 #[.agg (kinH k).toArray] w (Ret (.bool true) w):=by
 have hK:Know w w none' [] []:=Know.start (L:=[]) w (by simp)
 obtain ⟨u1,u2,a1,a2,s1,s2⟩:=hk
 go_enter Tryz.func149,Tryz.ntmps149
 go_wp2_with (first
  |((with_reducible refine wb 1 ?_);(refine wl_boxK (zs:=kinH k) hK rfl rfl rfl rfl ?_;clear hK;intro w1 b1 hK))
  |go_big_skip
  |go_big_skip
  |((with_reducible refine wl ?_);refine ldQ ?_)
  |(with_reducible refine en ?_))
 go_ret
 exact ⟨rfl,hK.mod⟩
set_option maxHeartbeats 2000000 in
theorem k9_prof {k:KinP} (hk:k.Ok) {n:Int} {w:World}:Calls Tryz.prog 128 #[.agg (kinH k).toArray,.int .i64 n] w fun e w'=> ∃ ad cap,e=.returned (.slice ad (k.prof n).length cap)/\Turn (rOw 3 elInt (.slice ad (k.prof n).length cap) (k.prof n)) w w' none':=by
 have hK:Know w w none' [] []:=Know.start (L:=[]) w (by simp)
 have kM:=Lib.hid (fun (W:World)=>k9_may hk (w:=W))
 by_cases hn:1<=n/\n<=16
 · have hfar:=KinP.far hk hn
   have hl:=KinP.prof_len hk n
   obtain ⟨X,hX⟩: ∃ X,k.prof n=X:=⟨_,rfl⟩
   have HX:=Lib.hid (show stepsP false k.accel k.speed (n*k.unit) 0 0=X by rw [<-hX];exact (KinP.prof_on hn).symm)
   rw [hX] at hl ⊢
   obtain ⟨E,hE⟩: ∃ E,n*k.unit=E:=⟨_,rfl⟩
   rw [hE] at HX hfar
   have HE:=Lib.hid hE
   have HK:=Lib.hid hk
   have ha:=hk.a1
   have hs1:=hk.s1
   have hs2:=hk.s2
   obtain ⟨hf1,hf2⟩:=hfar
   have d1:decide (n<1)=false:=decide_eq_false (by omega)
   have d2:decide (16<n)=false:=decide_eq_false (by omega)
   have HW:=Lib.hid (show (n*k.unit+9223372036854775808) % 18446744073709551616 - 9223372036854775808=E by rw [hE];omega)
   clear hX hE hk
   go_enter Tryz.func128,Tryz.ntmps128
   go_wp2_with (first
    |((with_reducible refine wb 2 ?_);(refine wl_boxK (zs:=kinH k) hK rfl rfl rfl rfl ?_;clear hK;intro w2 b2 hK))
    |(go_at_call 149;(refine (hK.quiet (kM.out _)).mono ?_;clear hK;rintro e w' ⟨rfl,hK⟩))
    |go_big_skip
    |go_big_skip
    |((with_reducible refine wl ?_);refine ldQ ?_)
    |(with_reducible refine en ?_))
   replace hK:=hK.nil 3 elInt
   go_loopg [5,6,7] (E+1).toNat (fun m t5 t6 t7 wr=> ∃ (pre:List Int) (p s:Int) (ad:Option Addr) (cap:Nat),t5=.slice ad pre.length cap/\t6=.int .i64 p/\t7=.int .i64 s/\m=(E+1 - p).toNat/\Hid (pre++stepsP false k.accel k.speed E p s=X)/\0<=p/\p<=E/\0<=s/\s<=k.speed/\
    Know w wr none' [rOw 3 elInt (.slice ad pre.length cap) pre,rBlk b2 (kinH k) 176] [])
   case atStart=>exact ⟨[],0,0,none,0,rfl,rfl,rfl,by omega,Lib.hid (by simpa using HX.out),by omega,by omega,by omega,by omega,hK⟩
   case round=>
    clear hK
    obtain ⟨pre,p,s,ad,cap,rfl,rfl,rfl,rfl,hP,h1,h2,h3,h4,hK⟩:=hrel
    by_cases hlt:p<E
    · obtain ⟨q,hq⟩: ∃ q,nextP k.accel (E - p) s k.speed=q:=⟨_,rfl⟩
      have hnx:=nextP_is (a:=k.accel) (r:=E - p) (s:=s) (v:=k.speed) ha (by omega) h3 hs1
      rw [hq] at hnx
      obtain ⟨n1,n2,n3,_⟩:=hnx
      have HP:=Lib.hid (show (pre++[p+q])++stepsP false k.accel k.speed E (p+q) q=X by
       rw [<-hP.out,stepsP_go ha h3 hs1 hlt,hq]
       simp)
      have hpl:pre.length<=16000:=by
       have:=congrArg List.length HP.out
       simp at this
       omega
      have kN:=Lib.hid (fun (W:World)=>show Calls Tryz.prog 148 #[.agg (kinH k).toArray,.int .i64 (E - p),.int .i64 s,.int .i64 k.speed] W (Ret (.int .i64 q) W) by
       have:=k9_next (r:=E - p) (s:=s) (v:=k.speed) (w:=W) HK.out (by omega) (by omega) h3 (by omega) hs1 hs2
       rw [hq] at this
       exact this)
      clear hq
      go_wp2_with (first
       |((with_reducible refine wt 23 ?_);(refine wl_pure (v:=.int .i64 E) rfl (fun W=>by go_simp;rw [IntKind.wrap_i64];exact HW.out) ?_))
       |((with_reducible refine wt 29 ?_);(refine wl_pure (v:=.int .i64 E) rfl (fun W=>by go_simp;rw [IntKind.wrap_i64];exact HW.out) ?_))
       |(go_at_call 148;(refine (hK.quiet (kN.out _)).mono ?_;clear hK;rintro e w' ⟨rfl,hK⟩))
       |((with_reducible refine wt 41 ?_);(refine wl_buildK 3 elInt [p+q] hK rfl rfl (fun W=>by kernel_rfl) rfl (by decide) ?_;clear hK;intro adb w41 hK))
       |((with_reducible refine wt 42 ?_)
         (refine wl_appK (xs:=pre) (ys:=[p+q]) hK intTy rfl rfl rfl rfl hK.rd (by simp;unfold maxLen;omega) (by simp;omega) (h:=?_);clear hK;intro ad2 N2 cap2 w42 hN2 hK;subst hN2;simp only [z0,z1] at hK))
       |go_big_skip
       |go_big_skip
       |((with_reducible refine wl ?_);refine ldQ ?_)
       |(with_reducible refine en ?_))
      go_roundg (E+1 - (p+q)).toNat
      case measure=>omega
      case rel=>exact ⟨pre++[p+q],p+q,q,ad2,cap2,by first|rfl|simp,by go_num,rfl,rfl,HP,by omega,by omega,by omega,by omega,hK.sub (.cons _ (List.Sublist.refl _))⟩
    · have HP:=Lib.hid (show pre=X by rw [<-hP.out,stepsP_end hlt];simp)
      go_wp2_with (first
       |((with_reducible refine wt 23 ?_);(refine wl_pure (v:=.int .i64 E) rfl (fun W=>by go_simp;rw [IntKind.wrap_i64];exact HW.out) ?_))
       |go_big_skip
       |go_big_skip
       |((with_reducible refine wl ?_);refine ldQ ?_)
       |(with_reducible refine en ?_))
      go_ret
      have hp:=HP.out
      subst hp
      exact ⟨ad,cap,rfl,hK.turn⟩
 · have hX:k.prof n=[]:=KinP.prof_off hn
   rw [hX]
   have hn2:n<1\/(1<=n/\16<n):=by omega
   clear hn hX
   rcases hn2 with hn|⟨hn,hn2⟩
   · have d1:decide (n<1)=true:=decide_eq_true hn
     go_enter Tryz.func128,Tryz.ntmps128
     go_wp2_with (first
      |((with_reducible refine wb 2 ?_);(refine wl_boxK (zs:=kinH k) hK rfl rfl rfl rfl ?_;clear hK;intro w2 b2 hK))
      |go_big_skip
      |go_big_skip
      |((with_reducible refine wl ?_);refine ldQ ?_)
      |(with_reducible refine en ?_))
     go_ret
     exact ⟨none,0,rfl,(hK.nil 3 elInt).turn⟩
   · have d1:decide (n<1)=false:=decide_eq_false (by omega)
     have d2:decide (16<n)=true:=decide_eq_true hn2
     go_enter Tryz.func128,Tryz.ntmps128
     go_wp2_with (first
      |((with_reducible refine wb 2 ?_);(refine wl_boxK (zs:=kinH k) hK rfl rfl rfl rfl ?_;clear hK;intro w2 b2 hK))
      |go_big_skip
      |go_big_skip
      |((with_reducible refine wl ?_);refine ldQ ?_)
      |(with_reducible refine en ?_))
     go_ret
     exact ⟨none,0,rfl,(hK.nil 3 elInt).turn⟩
theorem k9_time {k:KinP} (hk:k.Ok) {n:Int} {w:World}:Calls Tryz.prog 101 #[.agg (kinH k).toArray,.int .i64 n] w (Ret (.int .i64 (k.time n)) w):=by
 have hK:Know w w none' [] []:=Know.start (L:=[]) w (by simp)
 have kP:=Lib.hid (fun (W:World)=>k9_prof hk (n:=n) (w:=W))
 go_enter Tryz.func101,Tryz.ntmps101
 go_wp2_with (first
  |((with_reducible refine wb 2 ?_);(refine wl_boxK (zs:=kinH k) hK rfl rfl rfl rfl ?_;clear hK;intro w2 b2 hK))
  |(go_at_call 128;(refine (kP.out _).mono ?_;rintro e w' ⟨ad,cap,rfl,hT⟩;replace hK:=hK.push1 hT;clear hT))
  |go_big_skip
  |go_big_skip
  |((with_reducible refine wl ?_);refine ldQ ?_)
  |(with_reducible refine en ?_))
 go_ret
 exact ⟨rfl,hK.mod⟩
end Go.Proofs.YtngeeilkpnihmaaGreatDoor
