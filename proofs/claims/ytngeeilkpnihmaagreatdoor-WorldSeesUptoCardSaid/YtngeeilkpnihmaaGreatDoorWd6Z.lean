/- The world: a tick. -/
import Derived.Test.YtngeeilkpnihmaaGreatDoorWd5Z
import Derived.Test.YtngeeilkpnihmaaGreatDoorRbCZ
set_option linter.all false
namespace Go.Proofs.YtngeeilkpnihmaaGreatDoor
open Go Go.Sk Go.RowKit
set_option maxRecDepth 100000
theorem calls_hoists {c:ConfP} {wp i:Nat} {m:WM} {r:RM} {mv:Go.Sk.Move} {v:SM×RM×List Seen} {w0 w:World} {F:Nat->Prop} {A L:List Res} (h:Know w0 w F (A++[rWLD c wp m]) L) (hr:m.rs[i]?=some r) (hrs:m.rs.length<=64) (hv:hoistW c m.s i r mv.kind=v):
 Calls Tryz.prog 40 #[.pointer (some ⟨wp,0,none⟩),.int .i64 i,.agg mv.cells.toArray] w fun e w'=> ∃ ad cap,e=.returned (.slice ad (v.2.2.map rawS).length cap)/\Know w0 w' F ((rOw 43 elSight (.slice ad (v.2.2.map rawS).length cap) (v.2.2.map rawS)::A)++[rWLD c wp {m with s:=v.1,rs:=m.rs.set i v.2.1}]) L:=by
 have h1:Know w0 w F ([rWLD c wp m]++A) L:=h.perm List.perm_append_comm
 obtain ⟨S,hKS,back⟩:=Know.focus h1
 refine (w_hoists hr hrs hv hKS).mono ?_
 rintro e w' ⟨ad,cap,rfl,hT⟩
 rw [<-List.length_map (f:=rawS)] at hT ⊢
 refine ⟨ad,cap,rfl,(back w' _ hT).perm ?_⟩
 exact List.Perm.cons _ (show (rWLD c wp {m with s:=v.1,rs:=m.rs.set i v.2.1}::A).Perm (A++[rWLD c wp {m with s:=v.1,rs:=m.rs.set i v.2.1}]) from List.perm_append_comm (l₁:=[_]))
theorem see_len (w:WM) (i:Nat) (p:Pose) (xs:List Seen):(w.see i p xs).l.length=w.l.length+xs.length:=by simp [WM.see]
theorem ticks_is {c:ConfP} (m:WM): ∀ j:Nat,j<=m.rs.length->(m.ticks c j).1.rs.length=m.rs.length/\(m.ticks c j).1.now=m.now+1/\(∀ i,j<=i->(m.ticks c j).1.rs[i]?=m.rs[i]?)/\(m.ticks c j).1.l.length<=m.l.length+4*j/\(m.ticks c j).2.length<=j
 |0,_=>⟨rfl,rfl,fun _ _=>rfl,by simp [WM.ticks],by simp [WM.ticks]⟩
 |j+1,hj=>by
  obtain ⟨h1,h2,h3,h4,h5⟩:=ticks_is (c:=c) m j (by omega)
  obtain ⟨r,hr⟩: ∃ r,m.rs[j]?=some r:=⟨_,List.getElem?_eq_getElem (by omega)⟩
  have hrj:(m.ticks c j).1.rs[j]?=some r:=by rw [h3 j (Nat.le_refl _),hr]
  have hs:(tickW c (m.ticks c j).1.s j r).2.2.1.length<=4:=by
   unfold tickW hoistW
   repeat' split
   all_goals simp
  have ht:(tickW c (m.ticks c j).1.s j r).2.2.2.length<=1:=by
   unfold tickW
   repeat' split
   all_goals simp
  have e:m.ticks c (j+1)=((({(m.ticks c j).1 with s:=(tickW c (m.ticks c j).1.s j r).1,rs:=(m.ticks c j).1.rs.set j (tickW c (m.ticks c j).1.s j r).2.1}:WM).see j r.tick.1.pose (tickW c (m.ticks c j).1.s j r).2.2.1),(m.ticks c j).2++(tickW c (m.ticks c j).1.s j r).2.2.2):=by
   show (match (m.ticks c j).1.rs[j]? with|some r=>_|none=>_)=_
   rw [hrj]
  rw [e]
  refine ⟨by simp [WM.see,h1],h2,fun i hi=>?_,?_,?_⟩
  · show ((m.ticks c j).1.rs.set j _)[i]?=_
    rw [List.getElem?_set_ne (by omega),h3 i (by omega)]
  · rw [see_len]
    show (m.ticks c j).1.l.length+_<=_
    omega
  · rw [List.length_append]
    omega
theorem ticks_next {c:ConfP} {m:WM} {j:Nat} {r:RM} (hr:m.rs[j]?=some r) (hj:j<m.rs.length):m.ticks c (j+1)=((({(m.ticks c j).1 with s:=(tickW c (m.ticks c j).1.s j r).1,rs:=(m.ticks c j).1.rs.set j (tickW c (m.ticks c j).1.s j r).2.1}:WM).see j r.tick.1.pose (tickW c (m.ticks c j).1.s j r).2.2.1),(m.ticks c j).2++(tickW c (m.ticks c j).1.s j r).2.2.2):=by
 have hrj:(m.ticks c j).1.rs[j]?=some r:=by rw [(ticks_is (c:=c) m j (by omega)).2.2.1 j (Nat.le_refl _),hr]
 show (match (m.ticks c j).1.rs[j]? with|some r=>_|none=>_)=_
 rw [hrj]
theorem hoist_pose {c:ConfP} {s:SM} {i:Nat} {r:RM} {k:Int}:(hoistW c s i r k).2.1.pose=r.pose:=by
 unfold hoistW
 repeat' split
 all_goals rfl
theorem hoist_len {c:ConfP} {s:SM} {i:Nat} {r:RM} {k:Int}:(hoistW c s i r k).2.2.length<=2:=by
 unfold hoistW
 repeat' split
 all_goals simp
theorem teleTyW:SliceTy Tryz.prog 55 58 elTele.sz 152 (Tele.cells ⟨0,0,0,0,mvZ,poseO,0⟩):=
 SliceTy.mk' (z:=.agg (Tele.cells ⟨0,0,0,0,mvZ,poseO,0⟩).toArray) (by kernel_rfl) (by kernel_rfl) rfl rfl
set_option maxHeartbeats 8000000 in
theorem w_tick {c:ConfP} {wp:Nat} {m:WM} {n:Int} {w:World} {S:Nat->Prop} (hok: ∀ (i:Nat) r,m.rs[i]?=some r->RMOk c r n) (hn:n<=1000000000) (hml:m.l.length<=90000000) (hrs:m.rs.length<=64) (hnow:0<=m.now/\m.now<=1000000000) (h:Know w w S [rWLD c wp m] []):
 Calls Tryz.prog 19 #[.pointer (some ⟨wp,0,none⟩)] w fun e w'=> ∃ ad cap,e=.returned (.slice ad (m.tick c).2.length cap)/\Turns [rOw 58 elTele (.slice ad (m.tick c).2.length cap) (m.tick c).2,rWLD c wp (m.tick c).1] w w' S:=by
 obtain ⟨gp,sp,ra,rc,ps,sa,sc,hlen,hK⟩:=Know.openW [] h
 clear h
 obtain ⟨now0,now1⟩:=hnow
 have HSH0:=Lib.hid (fun (W:World) (A L:List Res) (h:Know w W S (A++rWd c wp gp sp ra rc ps sa sc {m with now:=m.now+1}) L)=>Know.shutW (m:={m with now:=m.now+1}) A hlen h)
 obtain ⟨N,hN⟩: ∃ N,m.rs.length=N:=⟨_,rfl⟩
 have hpl:ps.length=N:=by rw [hlen,hN]
 have HN0:=Lib.hid hN
 unfold WM.tick
 rw [hN] at hrs ⊢
 clear hlen hN
 simp only [rWd,wdCells,List.nil_append] at hK
 have HPL:=Lib.hid hpl
 rw [hpl] at hK
 clear hpl
 go_enter Tryz.func19,Tryz.ntmps19
 go_wp2_with (first
  |((with_reducible refine wl_at (o:=⟨none,.store 3 (.tmp 15) _,_,_,_,_⟩) ?_);(refine wl_storeK (v:=.int .i64 (m.now+1)) hK rfl rfl rfl rfl (sizT (by decide)) rfl (hk:=by simp) (h:=?_);clear hK;intro w' hK;simp only [z0,z1] at hK))
  |go_big_skip
  |((with_reducible refine wl ?_);refine ldKQ ?_)
  |(with_reducible refine en ?_))
 replace hK:=HSH0.out _ [] _ (by simp only [rWd,wdCells,List.nil_append];rw [HPL.out];exact hK)
 replace hK:=hK.nil 58 elTele
 simp only [List.nil_append] at hK
 clear HSH0
 go_loopg [3,4,5,6,21] N (fun k t3 _ _ _ t21 wr=> ∃ (j:Nat) (oa:Option Addr) (on oc:Nat) (wm:WM) (out:List Tele),t21=.int .i64 j/\t3=.slice oa on oc/\k=N - j/\j<=N/\Hid (m.ticks c j=(wm,out))/\Hid (on=out.length)/\on<=j/\Know w wr S [rOw 58 elTele (.slice oa on oc) out,rWLD c wp wm] [])
 case atStart=>exact ⟨0,none,0,0,_,[],rfl,rfl,rfl,by omega,rfl,rfl,by omega,hK⟩
 case round=>
  clear hK HPL
  clear ps
  obtain ⟨j,oa,on,oc,wm,out,rfl,rfl,rfl,hj,hT,hon,honj,hK⟩:=hrel
  by_cases hlt:j<N
  · have dl:decide ((j:Int)<(N:Int))=true:=decide_eq_true (by omega)
    obtain ⟨q1,q2,q3,q4,q5⟩:=ticks_is (c:=c) m j (by rw [HN0.out];omega)
    rw [hT.out] at q1 q2 q3 q4 q5
    simp only [HN0.out] at q1 q2 q3 q4 q5
    obtain ⟨r,hr⟩: ∃ r,m.rs[j]?=some r:=⟨_,List.getElem?_eq_getElem (by rw [HN0.out];omega)⟩
    have hrw:wm.rs[j]?=some r:=by rw [q3 j (Nat.le_refl _),hr]
    have hnext:=ticks_next (c:=c) hr (by rw [HN0.out];exact hlt)
    rw [hT.out] at hnext
    simp only at hnext
    have hokr:=hok j r hr
    obtain ⟨rt,hrt⟩: ∃ rt,r.tick=rt:=⟨_,rfl⟩
    obtain ⟨gp,sp,ra,rc,ps,sa,sc,hlen,hK1⟩:=Know.openW [rOw 58 elTele (.slice oa on oc) out] hK
    clear hK
    have hK:=hK1
    clear hK1
    obtain ⟨p,hp⟩: ∃ p,ps[j]?=some p:=⟨_,List.getElem?_eq_getElem (by rw [hlen,q1];exact hlt)⟩
    have HP:=Lib.hid hp
    have hhow:=(RMOk.tick_is hokr hrt).2
    have kT0:=(fun (W:World) (A L:List Res) (h:Know w W S (A++rWd c wp gp sp ra rc ps sa sc wm) L)=>turnsW (r':=rt.1) (v:=.tuple #[.agg rt.2.1.cells.toArray,.int .i64 rt.2.2]) h hrw hp (fun S hS=>rb_tick hokr hn hrt hS))
    unfold tickW at hnext
    rw [hrt] at hnext
    obtain ⟨r',mv,how⟩:=rt
    simp only at hhow hnext kT0
    have kT:=Lib.hid kT0
    obtain ⟨m1,hm1⟩: ∃ m1,({wm with rs:=wm.rs.set j r'}:WM)=m1:=⟨_,rfl⟩
    rw [hm1] at kT
    have hl1:m1.rs.length=N:=by rw [<-hm1];show (wm.rs.set j r').length=N;rw [List.length_set,q1]
    have hr1:m1.rs[j]?=some r':=by rw [<-hm1];exact List.getElem?_set_self (by rw [q1];exact hlt)
    have hll1:m1.l.length<=95000000:=by rw [<-hm1];show wm.l.length<=_;omega
    have HSH:=Lib.hid (fun (W:World) (A L:List Res) (h:Know w W S (A++rWd c wp gp sp ra rc ps sa sc m1) L)=>Know.shutW A (by rw [hl1,hlen,q1]) h)
    clear hrt kT0 hokr
    have hps:ps.length<=64:=by rw [hlen,q1];exact hrs
    by_cases h0:how=0
    · rw [if_pos h0] at hnext
      have HN:=Lib.hid (show m.ticks c (j+1)=(m1,out) by rw [hnext,<-hm1];simp [WM.see])
      subst h0
      clear hnext hm1 hl1 hr1 hr hrw hp hlen q1 q2 q3 q4 q5 hhow
      simp only [rWd,wdCells,List.cons_append,List.nil_append] at hK
      go_wp2_with (first
       |((with_reducible refine wt 30 ?_);(refine wl_ixK (i:=j) (u:=p) hK rfl rfl rfl rfl ptrTy.und ptrTy.size (xs:=ps) (hu:=HP) (h:=?_);intro b30 k30 hat30))
       |((with_reducible refine wt 31 ?_);refine wl_loadA0 rfl rfl rfl (scalT (by decide)) (hat:=hat30) (h:=?_))
       |(go_at_call 39;(refine (kT.out _ [rOw 58 elTele (.slice oa on oc) out] _ hK).mono ?_;clear hK;rintro e w' ⟨rfl,hK⟩;replace hK:=HSH.out _ [rOw 58 elTele (.slice oa on oc) out] _ hK;simp only [List.cons_append,List.nil_append] at hK))
       |((with_reducible refine wl_at (o:=⟨some 5,.alloc _,_,_,_,_⟩) ?_)
         (refine wl_allocK (z:=.agg (moveZ).toArray) (zs:=moveZ) hK rfl rfl (by kernel_rfl) rfl ?_;clear hK;intro w5 b5 hK))
       |((with_reducible refine wl_at (o:=⟨none,.store 38 _ _,_,_,_,_⟩) ?_)
         (refine wl_storeWK (vs:=Go.Sk.Move.cells mv) hK rfl rfl rfl rfl (aggS (by decide)) (move_one _) (h:=?_);clear hK;intro w' hK;simp only [z0,z1] at hK))
       |go_big_skip
       |((with_reducible refine wl ?_);refine ldKQ ?_)
       |(with_reducible refine en ?_))
      go_roundg (N - (j+1))
      case measure=>omega
      case rel=>exact ⟨j+1,oa,on,oc,m1,out,by go_num,rfl,rfl,by omega,HN,hon,by omega,hK.sub (.cons _ (List.Sublist.refl _))⟩
    · rw [if_neg h0] at hnext
      have dh:(how == 0)=false:=beq_eq_false_iff_ne.2 h0
      have dh':decide (how=0)=false:=decide_eq_false h0
      have hh12:how=1\/how=2:=by
       rcases hhow with e|e|e
       · exact absurd e.1 h0
       · exact .inl e.1
       · exact .inr e.1
      clear hhow h0
      by_cases hk:mv.kind=3\/mv.kind=4
      · rw [if_pos hk] at hnext
        obtain ⟨hv,hho⟩: ∃ hv,hoistW c m1.s j r' mv.kind=hv:=⟨_,rfl⟩
        have hho':hoistW c wm.s j r' mv.kind=hv:=by rw [<-hho,<-hm1]
        rw [hho'] at hnext
        have hhp:hv.2.1.pose=r'.pose:=by rw [<-hho];exact hoist_pose
        have hhl:hv.2.2.length<=2:=by rw [<-hho];exact hoist_len
        have hkk:(mv.kind == 3)=true\/((mv.kind == 3)=false/\(mv.kind == 4)=true):=by
         by_cases e:mv.kind=3
         · exact .inl (beq_iff_eq.2 e)
         · exact .inr ⟨beq_eq_false_iff_ne.2 e,beq_iff_eq.2 (by omega)⟩
        clear hho' hk
        rcases hkk with dk|⟨dk,dk4⟩
        all_goals
         rcases hh12 with rfl|rfl
         · have hh2: ¬ ((1:Int)=2):=by decide
           obtain ⟨s2,r2,ks⟩:=hv
           simp only at hnext hhp hhl hho
           obtain ⟨ys,hys⟩: ∃ ys,ks.map rawS=ys:=⟨_,rfl⟩
           have hyl:ys.length<=2:=by rw [<-hys,List.length_map];exact hhl
           obtain ⟨m2,hm2⟩: ∃ m2,({m1 with s:=s2,rs:=m1.rs.set j r2}:WM)=m2:=⟨_,rfl⟩
           have hl2:m2.rs.length=N:=by rw [<-hm2];show (m1.rs.set j r2).length=N;rw [List.length_set,hl1]
           have hr2:m2.rs[j]?=some r2:=by rw [<-hm2];exact List.getElem?_set_self (by rw [hl1];exact hlt)
           have hll2:m2.l.length<=95000000:=by rw [<-hm2];exact hll1
           have kHo:=Lib.hid (fun (W:World) (A L:List Res) (h:Know w W S (A++[rWLD c wp m1]) L)=>(by
            have:=calls_hoists (mv:=mv) h hr1 (by rw [hl1];exact hrs) hho
            simp only [hys,hm2] at this
            exact this:Calls Tryz.prog 40 #[.pointer (some ⟨wp,0,none⟩),.int .i64 j,.agg mv.cells.toArray] W fun e w'=> ∃ ad cap,e=.returned (.slice ad ys.length cap)/\Know w w' S ((rOw 43 elSight (.slice ad ys.length cap) ys::A)++[rWLD c wp m2]) L))
           obtain ⟨m3,hm3⟩: ∃ m3,({m2 with l:=m2.l++ys.map (stampS m2.now j r2.pose)}:WM)=m3:=⟨_,rfl⟩
           have hl3:m3.rs.length=N:=by rw [<-hm3];exact hl2
           have hr3:m3.rs[j]?=some r2:=by rw [<-hm3];exact hr2
           have hll3:m3.l.length<=95000010:=by rw [<-hm3];show (m2.l++_).length<=_;rw [List.length_append,List.length_map];omega
           have kS1:=Lib.hid (fun (W:World) (A L:List Res) (xa:Option Addr) (xc:Nat) (h:Know w W S (A++[rWLD c wp m2]) L) (hx:rOw 43 elSight (.slice xa ys.length xc) ys∈A)=>(by
            have:=calls_sees h hr2 (by omega) (by omega) (by rw [hl2];exact hrs) hx
            rw [hm3] at this
            exact this:Calls Tryz.prog 38 #[.pointer (some ⟨wp,0,none⟩),.int .i64 j,.slice xa ys.length xc] W fun e w'=>e=.returned (.tuple #[])/\Know w w' S (A++[rWLD c wp m3]) L))
           obtain ⟨r3,hr3e⟩: ∃ r3,r3=r2:=⟨_,rfl⟩
           rw [<-hr3e] at hr3
           obtain ⟨m4,hm4⟩: ∃ m4,({m3 with l:=m3.l++[stampS m3.now j r3.pose ⟨2,0,0,0,poseO,mv⟩]}:WM)=m4:=⟨_,rfl⟩
           have hl4:m4.rs.length=N:=by rw [<-hm4];exact hl3
           have hr4:m4.rs[j]?=some r3:=by rw [<-hm4];exact hr3
           have hll4:m4.l.length<=95000011:=by rw [<-hm4];show (m3.l++_).length<=_;rw [List.length_append];simp;omega
           have kS2:=Lib.hid (fun (W:World) (A L:List Res) (xa:Option Addr) (h:Know w W S (A++[rWLD c wp m3]) L) (hx:rOw 43 elSight (.slice xa 1 1) [(⟨2,0,0,0,poseO,mv⟩:Sight)]∈A)=>(by
            have:=calls_sees (ys:=[(⟨2,0,0,0,poseO,mv⟩:Sight)]) h hr3 (by simp) (by omega) (by rw [hl3];exact hrs) hx
            simp only [List.map_cons,List.map_nil,hm4] at this
            exact this:Calls Tryz.prog 38 #[.pointer (some ⟨wp,0,none⟩),.int .i64 j,.slice xa 1 1] W fun e w'=>e=.returned (.tuple #[])/\Know w w' S (A++[rWLD c wp m4]) L))
           obtain ⟨m5,hm5⟩: ∃ m5,m4=m5:=⟨_,rfl⟩
           have hl5:m5.rs.length=N:=by rw [<-hm5];exact hl4
           have hr5:m5.rs[j]?=some r3:=by rw [<-hm5];exact hr4
           rw [hm5] at kS2
           have HN:=Lib.hid (show m.ticks c (j+1)=(m5,out++[r3.tell j]) by
            rw [hnext,<-hm5,<-hm4,<-hm3,<-hm2,<-hm1,hr3e,<-hys]
            simp [WM.see,Seen.at,stampS,rawS,hhp,hh2])
           have kTe:=Lib.hid (fun (W:World) (ps2:List Nat) (p2:Nat) (h:Has W (rMany (robsW c ps2 m5.rs))) (hp2:ps2[j]?=some p2)=>rb_tell (Has.robW h hr5 hp2))
           have HJ5:=Lib.hid (show j<m5.rs.length by rw [hl5];exact hlt)
           have hol:out.length<=100:=by have:=hon.out;omega
           clear hnext hr hrw hp hlen q1 q2 q3 q4 q5 hm1 hl1 hr1 hm3 hl3 hr3 hll3 hm4 hl4 hr4 hll4 hm5 hl5 hr5 hr3e hll1 hm2 hl2 hr2 hll2 hys hhp hhl hho
           simp only [rWd,wdCells,List.cons_append,List.nil_append] at hK
           go_wp2_with (first
            |((with_reducible refine wt 30 ?_);(refine wl_ixK (i:=j) (u:=p) hK rfl rfl rfl rfl ptrTy.und ptrTy.size (xs:=ps) (hu:=HP) (h:=?_);intro b30 k30 hat30))
            |((with_reducible refine wt 31 ?_);refine wl_loadA0 rfl rfl rfl (scalT (by decide)) (hat:=hat30) (h:=?_))
            |(go_at_call 39;(refine (kT.out _ [rOw 58 elTele (.slice oa on oc) out] _ hK).mono ?_;clear hK;rintro e w' ⟨rfl,hK⟩;replace hK:=HSH.out _ [rOw 58 elTele (.slice oa on oc) out] _ hK;simp only [List.cons_append,List.nil_append] at hK))
            |((with_reducible refine wl_at (o:=⟨some 5,.alloc _,_,_,_,_⟩) ?_)
              (refine wl_allocK (z:=.agg (moveZ).toArray) (zs:=moveZ) hK rfl rfl (by kernel_rfl) rfl ?_;clear hK;intro w5 b5 hK))
            |((with_reducible refine wl_at (o:=⟨none,.store 38 _ _,_,_,_,_⟩) ?_)
              (refine wl_storeWK (vs:=Go.Sk.Move.cells mv) hK rfl rfl rfl rfl (aggS (by decide)) (move_one _) (h:=?_);clear hK;intro w' hK;simp only [z0,z1] at hK))
            |(go_at_call 40;(refine (kHo.out _ [rBlk b5 (Go.Sk.Move.cells mv) 38,rOw 58 elTele (.slice oa on oc) out] _ hK).mono ?_;clear hK;rintro e w' ⟨adk,cpk,rfl,hK⟩;simp only [List.cons_append,List.nil_append] at hK))
            |(go_at_call 38;(first|(with_reducible refine (kS1.out _ [rOw 43 elSight (.slice adk ys.length cpk) ys,rBlk b5 (Go.Sk.Move.cells mv) 38,rOw 58 elTele (.slice oa on oc) out] _ adk cpk hK (by simp)).mono ?_;clear hK;rintro e w' ⟨rfl,hK⟩;simp only [List.cons_append,List.nil_append] at hK)|(with_reducible refine (kS2.out _ [rOw 43 elSight (.slice ade 1 1) [(⟨2,0,0,0,poseO,mv⟩:Sight)],rOw 43 elSight (.slice adk ys.length cpk) ys,rBlk b5 (Go.Sk.Move.cells mv) 38,rOw 58 elTele (.slice oa on oc) out] _ ade hK (by simp)).mono ?_;clear hK;rintro e w' ⟨rfl,hK⟩;simp only [List.cons_append,List.nil_append] at hK)))
            |((with_reducible refine wt 55 ?_);(refine wl_pure (v:=.agg (Sight.cells ⟨2,0,0,0,poseO,mv⟩).toArray) rfl (fun W=>by kernel_rfl) ?_))
            |((with_reducible refine wt 56 ?_);(refine wl_buildK 43 elSight [(⟨2,0,0,0,poseO,mv⟩:Sight)] hK rfl rfl (fun W=>by kernel_rfl) rfl (by decide) ?_;clear hK;intro ade w56 hK))
            |((with_reducible refine wt 69 ?_);(obtain ⟨gp2,sp2,ra2,rc2,ps2,sa2,sc2,hl2,hK2⟩:=Know.openW [rOw 43 elSight (.slice ade 1 1) [(⟨2,0,0,0,poseO,mv⟩:Sight)],rOw 43 elSight (.slice adk ys.length cpk) ys,rBlk b5 (Go.Sk.Move.cells mv) 38,rOw 58 elTele (.slice oa on oc) out] hK;clear hK;have hK:=hK2;clear hK2;obtain ⟨p2,hp2⟩: ∃ p2,ps2[j]?=some p2:=⟨_,List.getElem?_eq_getElem (by rw [hl2];exact HJ5.out)⟩;have HP2:=Lib.hid hp2;have HL2:=Lib.hid hl2;clear hp2 hl2;simp only [rWd,wdCells,List.cons_append,List.nil_append] at hK;refine wl_loadK hK rfl rfl rfl (scalT (by decide)) (h:=?_)))
            |((with_reducible refine wt 71 ?_);(refine wl_ixK (i:=j) (u:=p2) hK rfl rfl rfl rfl ptrTy.und ptrTy.size (xs:=ps2) (hu:=HP2) (h:=?_);intro b71 k71 hat71))
            |((with_reducible refine wt 72 ?_);refine wl_loadA0 rfl rfl rfl (scalT (by decide)) (hat:=hat71) (h:=?_))
            |(go_at_call 41;(refine (kTe.out _ ps2 p2 hK.own HP2.out).mono ?_;rintro e w' ⟨adt,rfl,hT⟩;replace hK:=hK.push1 hT;clear hT))
            |((with_reducible refine wt 74 ?_)
              (refine wl_appK (xs:=out) (ys:=[r3.tell j]) hK teleTyW rfl rfl rfl rfl hK.rd (by simp;unfold maxLen;omega) (by simp;omega) (h:=?_);clear hK;intro ad2 N2 cap2 w74 hN2 hK;replace hN2:=Lib.hid hN2;simp only [z0,z1] at hK))
            |go_big_skip
            |((with_reducible refine wl ?_);refine ldKQ ?_)
            |(with_reducible refine en ?_))
           replace hK:=Know.shutW [rOw 58 elTele (.slice adt 1 1) [r3.tell j],rOw 43 elSight (.slice ade 1 1) [(⟨2,0,0,0,poseO,mv⟩:Sight)],rOw 43 elSight (.slice adk ys.length cpk) ys,rBlk b5 (Go.Sk.Move.cells mv) 38,rOw 58 elTele (.slice ad2 N2 cap2) (out++[r3.tell j])] HL2.out hK
           go_roundg (N - (j+1))
           case measure=>omega
           case rel=>exact ⟨j+1,ad2,N2,cap2,m5,out++[r3.tell j],by go_num,rfl,rfl,by omega,HN,hN2,by have h1:=hN2.out;have h2:=hon.out;rw [List.length_append] at h1;simp only [List.length_cons,List.length_nil] at h1;omega,hK.sub (.cons _ (.cons _ (.cons _ (.cons _ (.cons_cons _ (.cons_cons _ .slnil))))))⟩
         · skip
           obtain ⟨s2,r2,ks⟩:=hv
           simp only at hnext hhp hhl hho
           obtain ⟨ys,hys⟩: ∃ ys,ks.map rawS=ys:=⟨_,rfl⟩
           have hyl:ys.length<=2:=by rw [<-hys,List.length_map];exact hhl
           obtain ⟨m2,hm2⟩: ∃ m2,({m1 with s:=s2,rs:=m1.rs.set j r2}:WM)=m2:=⟨_,rfl⟩
           have hl2:m2.rs.length=N:=by rw [<-hm2];show (m1.rs.set j r2).length=N;rw [List.length_set,hl1]
           have hr2:m2.rs[j]?=some r2:=by rw [<-hm2];exact List.getElem?_set_self (by rw [hl1];exact hlt)
           have hll2:m2.l.length<=95000000:=by rw [<-hm2];exact hll1
           have kHo:=Lib.hid (fun (W:World) (A L:List Res) (h:Know w W S (A++[rWLD c wp m1]) L)=>(by
            have:=calls_hoists (mv:=mv) h hr1 (by rw [hl1];exact hrs) hho
            simp only [hys,hm2] at this
            exact this:Calls Tryz.prog 40 #[.pointer (some ⟨wp,0,none⟩),.int .i64 j,.agg mv.cells.toArray] W fun e w'=> ∃ ad cap,e=.returned (.slice ad ys.length cap)/\Know w w' S ((rOw 43 elSight (.slice ad ys.length cap) ys::A)++[rWLD c wp m2]) L))
           obtain ⟨m3,hm3⟩: ∃ m3,({m2 with l:=m2.l++ys.map (stampS m2.now j r2.pose)}:WM)=m3:=⟨_,rfl⟩
           have hl3:m3.rs.length=N:=by rw [<-hm3];exact hl2
           have hr3:m3.rs[j]?=some r2:=by rw [<-hm3];exact hr2
           have hll3:m3.l.length<=95000010:=by rw [<-hm3];show (m2.l++_).length<=_;rw [List.length_append,List.length_map];omega
           have kS1:=Lib.hid (fun (W:World) (A L:List Res) (xa:Option Addr) (xc:Nat) (h:Know w W S (A++[rWLD c wp m2]) L) (hx:rOw 43 elSight (.slice xa ys.length xc) ys∈A)=>(by
            have:=calls_sees h hr2 (by omega) (by omega) (by rw [hl2];exact hrs) hx
            rw [hm3] at this
            exact this:Calls Tryz.prog 38 #[.pointer (some ⟨wp,0,none⟩),.int .i64 j,.slice xa ys.length xc] W fun e w'=>e=.returned (.tuple #[])/\Know w w' S (A++[rWLD c wp m3]) L))
           obtain ⟨r3,hr3e⟩: ∃ r3,r3=r2:=⟨_,rfl⟩
           rw [<-hr3e] at hr3
           obtain ⟨m4,hm4⟩: ∃ m4,({m3 with l:=m3.l++[stampS m3.now j r3.pose ⟨2,0,0,0,poseO,mv⟩]}:WM)=m4:=⟨_,rfl⟩
           have hl4:m4.rs.length=N:=by rw [<-hm4];exact hl3
           have hr4:m4.rs[j]?=some r3:=by rw [<-hm4];exact hr3
           have hll4:m4.l.length<=95000011:=by rw [<-hm4];show (m3.l++_).length<=_;rw [List.length_append];simp;omega
           have kS2:=Lib.hid (fun (W:World) (A L:List Res) (xa:Option Addr) (h:Know w W S (A++[rWLD c wp m3]) L) (hx:rOw 43 elSight (.slice xa 1 1) [(⟨2,0,0,0,poseO,mv⟩:Sight)]∈A)=>(by
            have:=calls_sees (ys:=[(⟨2,0,0,0,poseO,mv⟩:Sight)]) h hr3 (by simp) (by omega) (by rw [hl3];exact hrs) hx
            simp only [List.map_cons,List.map_nil,hm4] at this
            exact this:Calls Tryz.prog 38 #[.pointer (some ⟨wp,0,none⟩),.int .i64 j,.slice xa 1 1] W fun e w'=>e=.returned (.tuple #[])/\Know w w' S (A++[rWLD c wp m4]) L))
           obtain ⟨m5,hm5⟩: ∃ m5,({m4 with l:=m4.l++[stampS m4.now j r3.pose ⟨3,0,0,0,poseO,mvZ⟩]}:WM)=m5:=⟨_,rfl⟩
           have hl5:m5.rs.length=N:=by rw [<-hm5];exact hl4
           have hr5:m5.rs[j]?=some r3:=by rw [<-hm5];exact hr4
           have kS3:=Lib.hid (fun (W:World) (A L:List Res) (xa:Option Addr) (h:Know w W S (A++[rWLD c wp m4]) L) (hx:rOw 43 elSight (.slice xa 1 1) [(⟨3,0,0,0,poseO,mvZ⟩:Sight)]∈A)=>(by
            have:=calls_sees (ys:=[(⟨3,0,0,0,poseO,mvZ⟩:Sight)]) h hr4 (by simp) (by omega) (by rw [hl4];exact hrs) hx
            simp only [List.map_cons,List.map_nil,hm5] at this
            exact this:Calls Tryz.prog 38 #[.pointer (some ⟨wp,0,none⟩),.int .i64 j,.slice xa 1 1] W fun e w'=>e=.returned (.tuple #[])/\Know w w' S (A++[rWLD c wp m5]) L))
           have HN:=Lib.hid (show m.ticks c (j+1)=(m5,out++[r3.tell j]) by
            rw [hnext,<-hm5,<-hm4,<-hm3,<-hm2,<-hm1,hr3e,<-hys]
            simp [WM.see,Seen.at,stampS,rawS,hhp,if_pos rfl])
           have kTe:=Lib.hid (fun (W:World) (ps2:List Nat) (p2:Nat) (h:Has W (rMany (robsW c ps2 m5.rs))) (hp2:ps2[j]?=some p2)=>rb_tell (Has.robW h hr5 hp2))
           have HJ5:=Lib.hid (show j<m5.rs.length by rw [hl5];exact hlt)
           have hol:out.length<=100:=by have:=hon.out;omega
           clear hnext hr hrw hp hlen q1 q2 q3 q4 q5 hm1 hl1 hr1 hm3 hl3 hr3 hll3 hm4 hl4 hr4 hll4 hm5 hl5 hr5 hr3e hll1 hm2 hl2 hr2 hll2 hys hhp hhl hho
           simp only [rWd,wdCells,List.cons_append,List.nil_append] at hK
           go_wp2_with (first
            |((with_reducible refine wt 30 ?_);(refine wl_ixK (i:=j) (u:=p) hK rfl rfl rfl rfl ptrTy.und ptrTy.size (xs:=ps) (hu:=HP) (h:=?_);intro b30 k30 hat30))
            |((with_reducible refine wt 31 ?_);refine wl_loadA0 rfl rfl rfl (scalT (by decide)) (hat:=hat30) (h:=?_))
            |(go_at_call 39;(refine (kT.out _ [rOw 58 elTele (.slice oa on oc) out] _ hK).mono ?_;clear hK;rintro e w' ⟨rfl,hK⟩;replace hK:=HSH.out _ [rOw 58 elTele (.slice oa on oc) out] _ hK;simp only [List.cons_append,List.nil_append] at hK))
            |((with_reducible refine wl_at (o:=⟨some 5,.alloc _,_,_,_,_⟩) ?_)
              (refine wl_allocK (z:=.agg (moveZ).toArray) (zs:=moveZ) hK rfl rfl (by kernel_rfl) rfl ?_;clear hK;intro w5 b5 hK))
            |((with_reducible refine wl_at (o:=⟨none,.store 38 _ _,_,_,_,_⟩) ?_)
              (refine wl_storeWK (vs:=Go.Sk.Move.cells mv) hK rfl rfl rfl rfl (aggS (by decide)) (move_one _) (h:=?_);clear hK;intro w' hK;simp only [z0,z1] at hK))
            |(go_at_call 40;(refine (kHo.out _ [rBlk b5 (Go.Sk.Move.cells mv) 38,rOw 58 elTele (.slice oa on oc) out] _ hK).mono ?_;clear hK;rintro e w' ⟨adk,cpk,rfl,hK⟩;simp only [List.cons_append,List.nil_append] at hK))
            |(go_at_call 38;(first|(with_reducible refine (kS1.out _ [rOw 43 elSight (.slice adk ys.length cpk) ys,rBlk b5 (Go.Sk.Move.cells mv) 38,rOw 58 elTele (.slice oa on oc) out] _ adk cpk hK (by simp)).mono ?_;clear hK;rintro e w' ⟨rfl,hK⟩;simp only [List.cons_append,List.nil_append] at hK)|(with_reducible refine (kS2.out _ [rOw 43 elSight (.slice ade 1 1) [(⟨2,0,0,0,poseO,mv⟩:Sight)],rOw 43 elSight (.slice adk ys.length cpk) ys,rBlk b5 (Go.Sk.Move.cells mv) 38,rOw 58 elTele (.slice oa on oc) out] _ ade hK (by simp)).mono ?_;clear hK;rintro e w' ⟨rfl,hK⟩;simp only [List.cons_append,List.nil_append] at hK)|(refine (kS3.out _ [rOw 43 elSight (.slice adh 1 1) [(⟨3,0,0,0,poseO,mvZ⟩:Sight)],rOw 43 elSight (.slice ade 1 1) [(⟨2,0,0,0,poseO,mv⟩:Sight)],rOw 43 elSight (.slice adk ys.length cpk) ys,rBlk b5 (Go.Sk.Move.cells mv) 38,rOw 58 elTele (.slice oa on oc) out] _ adh hK (by simp)).mono ?_;clear hK;rintro e w' ⟨rfl,hK⟩;simp only [List.cons_append,List.nil_append] at hK)))
            |((with_reducible refine wt 55 ?_);(refine wl_pure (v:=.agg (Sight.cells ⟨2,0,0,0,poseO,mv⟩).toArray) rfl (fun W=>by kernel_rfl) ?_))
            |((with_reducible refine wt 56 ?_);(refine wl_buildK 43 elSight [(⟨2,0,0,0,poseO,mv⟩:Sight)] hK rfl rfl (fun W=>by kernel_rfl) rfl (by decide) ?_;clear hK;intro ade w56 hK))
            |((with_reducible refine wt 62 ?_);(refine wl_pure (v:=.agg (Sight.cells ⟨3,0,0,0,poseO,mvZ⟩).toArray) rfl (fun W=>by kernel_rfl) ?_))
            |((with_reducible refine wt 63 ?_);(refine wl_buildK 43 elSight [(⟨3,0,0,0,poseO,mvZ⟩:Sight)] hK rfl rfl (fun W=>by kernel_rfl) rfl (by decide) ?_;clear hK;intro adh w63 hK))
            |((with_reducible refine wt 69 ?_);(obtain ⟨gp2,sp2,ra2,rc2,ps2,sa2,sc2,hl2,hK2⟩:=Know.openW [rOw 43 elSight (.slice adh 1 1) [(⟨3,0,0,0,poseO,mvZ⟩:Sight)],rOw 43 elSight (.slice ade 1 1) [(⟨2,0,0,0,poseO,mv⟩:Sight)],rOw 43 elSight (.slice adk ys.length cpk) ys,rBlk b5 (Go.Sk.Move.cells mv) 38,rOw 58 elTele (.slice oa on oc) out] hK;clear hK;have hK:=hK2;clear hK2;obtain ⟨p2,hp2⟩: ∃ p2,ps2[j]?=some p2:=⟨_,List.getElem?_eq_getElem (by rw [hl2];exact HJ5.out)⟩;have HP2:=Lib.hid hp2;have HL2:=Lib.hid hl2;clear hp2 hl2;simp only [rWd,wdCells,List.cons_append,List.nil_append] at hK;refine wl_loadK hK rfl rfl rfl (scalT (by decide)) (h:=?_)))
            |((with_reducible refine wt 71 ?_);(refine wl_ixK (i:=j) (u:=p2) hK rfl rfl rfl rfl ptrTy.und ptrTy.size (xs:=ps2) (hu:=HP2) (h:=?_);intro b71 k71 hat71))
            |((with_reducible refine wt 72 ?_);refine wl_loadA0 rfl rfl rfl (scalT (by decide)) (hat:=hat71) (h:=?_))
            |(go_at_call 41;(refine (kTe.out _ ps2 p2 hK.own HP2.out).mono ?_;rintro e w' ⟨adt,rfl,hT⟩;replace hK:=hK.push1 hT;clear hT))
            |((with_reducible refine wt 74 ?_)
              (refine wl_appK (xs:=out) (ys:=[r3.tell j]) hK teleTyW rfl rfl rfl rfl hK.rd (by simp;unfold maxLen;omega) (by simp;omega) (h:=?_);clear hK;intro ad2 N2 cap2 w74 hN2 hK;replace hN2:=Lib.hid hN2;simp only [z0,z1] at hK))
            |go_big_skip
            |((with_reducible refine wl ?_);refine ldKQ ?_)
            |(with_reducible refine en ?_))
           replace hK:=Know.shutW [rOw 58 elTele (.slice adt 1 1) [r3.tell j],rOw 43 elSight (.slice adh 1 1) [(⟨3,0,0,0,poseO,mvZ⟩:Sight)],rOw 43 elSight (.slice ade 1 1) [(⟨2,0,0,0,poseO,mv⟩:Sight)],rOw 43 elSight (.slice adk ys.length cpk) ys,rBlk b5 (Go.Sk.Move.cells mv) 38,rOw 58 elTele (.slice ad2 N2 cap2) (out++[r3.tell j])] HL2.out hK
           go_roundg (N - (j+1))
           case measure=>omega
           case rel=>exact ⟨j+1,ad2,N2,cap2,m5,out++[r3.tell j],by go_num,rfl,rfl,by omega,HN,hN2,by have h1:=hN2.out;have h2:=hon.out;rw [List.length_append] at h1;simp only [List.length_cons,List.length_nil] at h1;omega,hK.sub (.cons _ (.cons _ (.cons _ (.cons _ (.cons _ (.cons_cons _ (.cons_cons _ .slnil)))))))⟩
      · rw [if_neg hk] at hnext
        have dk:(mv.kind == 3)=false:=beq_eq_false_iff_ne.2 (fun e=>hk (.inl e))
        have dk4:(mv.kind == 4)=false:=beq_eq_false_iff_ne.2 (fun e=>hk (.inr e))
        clear hk
        rcases hh12 with rfl|rfl
        · have hh2: ¬ ((1:Int)=2):=by decide
          have hll3:m1.l.length<=95000010:=by omega
          obtain ⟨m4,hm4⟩: ∃ m4,({m1 with l:=m1.l++[stampS m1.now j r'.pose ⟨2,0,0,0,poseO,mv⟩]}:WM)=m4:=⟨_,rfl⟩
          have hl4:m4.rs.length=N:=by rw [<-hm4];exact hl1
          have hr4:m4.rs[j]?=some r':=by rw [<-hm4];exact hr1
          have hll4:m4.l.length<=95000011:=by rw [<-hm4];show (m1.l++_).length<=_;rw [List.length_append];simp;omega
          have kS2:=Lib.hid (fun (W:World) (A L:List Res) (xa:Option Addr) (h:Know w W S (A++[rWLD c wp m1]) L) (hx:rOw 43 elSight (.slice xa 1 1) [(⟨2,0,0,0,poseO,mv⟩:Sight)]∈A)=>(by
           have:=calls_sees (ys:=[(⟨2,0,0,0,poseO,mv⟩:Sight)]) h hr1 (by simp) (by omega) (by rw [hl1];exact hrs) hx
           simp only [List.map_cons,List.map_nil,hm4] at this
           exact this:Calls Tryz.prog 38 #[.pointer (some ⟨wp,0,none⟩),.int .i64 j,.slice xa 1 1] W fun e w'=>e=.returned (.tuple #[])/\Know w w' S (A++[rWLD c wp m4]) L))
          obtain ⟨m5,hm5⟩: ∃ m5,m4=m5:=⟨_,rfl⟩
          have hl5:m5.rs.length=N:=by rw [<-hm5];exact hl4
          have hr5:m5.rs[j]?=some r':=by rw [<-hm5];exact hr4
          rw [hm5] at kS2
          have HN:=Lib.hid (show m.ticks c (j+1)=(m5,out++[r'.tell j]) by
           rw [hnext,<-hm5,<-hm4,<-hm1]
           simp [WM.see,Seen.at,stampS,rawS,hh2])
          have kTe:=Lib.hid (fun (W:World) (ps2:List Nat) (p2:Nat) (h:Has W (rMany (robsW c ps2 m5.rs))) (hp2:ps2[j]?=some p2)=>rb_tell (Has.robW h hr5 hp2))
          have HJ5:=Lib.hid (show j<m5.rs.length by rw [hl5];exact hlt)
          have hol:out.length<=100:=by have:=hon.out;omega
          clear hnext hr hrw hp hlen q1 q2 q3 q4 q5 hm1 hl1 hr1 hll3 hm4 hl4 hr4 hll4 hm5 hl5 hr5 hll1
          simp only [rWd,wdCells,List.cons_append,List.nil_append] at hK
          go_wp2_with (first
           |((with_reducible refine wt 30 ?_);(refine wl_ixK (i:=j) (u:=p) hK rfl rfl rfl rfl ptrTy.und ptrTy.size (xs:=ps) (hu:=HP) (h:=?_);intro b30 k30 hat30))
           |((with_reducible refine wt 31 ?_);refine wl_loadA0 rfl rfl rfl (scalT (by decide)) (hat:=hat30) (h:=?_))
           |(go_at_call 39;(refine (kT.out _ [rOw 58 elTele (.slice oa on oc) out] _ hK).mono ?_;clear hK;rintro e w' ⟨rfl,hK⟩;replace hK:=HSH.out _ [rOw 58 elTele (.slice oa on oc) out] _ hK;simp only [List.cons_append,List.nil_append] at hK))
           |((with_reducible refine wl_at (o:=⟨some 5,.alloc _,_,_,_,_⟩) ?_)
             (refine wl_allocK (z:=.agg (moveZ).toArray) (zs:=moveZ) hK rfl rfl (by kernel_rfl) rfl ?_;clear hK;intro w5 b5 hK))
           |((with_reducible refine wl_at (o:=⟨none,.store 38 _ _,_,_,_,_⟩) ?_)
             (refine wl_storeWK (vs:=Go.Sk.Move.cells mv) hK rfl rfl rfl rfl (aggS (by decide)) (move_one _) (h:=?_);clear hK;intro w' hK;simp only [z0,z1] at hK))
           |(go_at_call 38;(first|(with_reducible refine (kS2.out _ [rOw 43 elSight (.slice ade 1 1) [(⟨2,0,0,0,poseO,mv⟩:Sight)],rBlk b5 (Go.Sk.Move.cells mv) 38,rOw 58 elTele (.slice oa on oc) out] _ ade hK (by simp)).mono ?_;clear hK;rintro e w' ⟨rfl,hK⟩;simp only [List.cons_append,List.nil_append] at hK)))
           |((with_reducible refine wt 55 ?_);(refine wl_pure (v:=.agg (Sight.cells ⟨2,0,0,0,poseO,mv⟩).toArray) rfl (fun W=>by kernel_rfl) ?_))
           |((with_reducible refine wt 56 ?_);(refine wl_buildK 43 elSight [(⟨2,0,0,0,poseO,mv⟩:Sight)] hK rfl rfl (fun W=>by kernel_rfl) rfl (by decide) ?_;clear hK;intro ade w56 hK))
           |((with_reducible refine wt 69 ?_);(obtain ⟨gp2,sp2,ra2,rc2,ps2,sa2,sc2,hl2,hK2⟩:=Know.openW [rOw 43 elSight (.slice ade 1 1) [(⟨2,0,0,0,poseO,mv⟩:Sight)],rBlk b5 (Go.Sk.Move.cells mv) 38,rOw 58 elTele (.slice oa on oc) out] hK;clear hK;have hK:=hK2;clear hK2;obtain ⟨p2,hp2⟩: ∃ p2,ps2[j]?=some p2:=⟨_,List.getElem?_eq_getElem (by rw [hl2];exact HJ5.out)⟩;have HP2:=Lib.hid hp2;have HL2:=Lib.hid hl2;clear hp2 hl2;simp only [rWd,wdCells,List.cons_append,List.nil_append] at hK;refine wl_loadK hK rfl rfl rfl (scalT (by decide)) (h:=?_)))
           |((with_reducible refine wt 71 ?_);(refine wl_ixK (i:=j) (u:=p2) hK rfl rfl rfl rfl ptrTy.und ptrTy.size (xs:=ps2) (hu:=HP2) (h:=?_);intro b71 k71 hat71))
           |((with_reducible refine wt 72 ?_);refine wl_loadA0 rfl rfl rfl (scalT (by decide)) (hat:=hat71) (h:=?_))
           |(go_at_call 41;(refine (kTe.out _ ps2 p2 hK.own HP2.out).mono ?_;rintro e w' ⟨adt,rfl,hT⟩;replace hK:=hK.push1 hT;clear hT))
           |((with_reducible refine wt 74 ?_)
             (refine wl_appK (xs:=out) (ys:=[r'.tell j]) hK teleTyW rfl rfl rfl rfl hK.rd (by simp;unfold maxLen;omega) (by simp;omega) (h:=?_);clear hK;intro ad2 N2 cap2 w74 hN2 hK;replace hN2:=Lib.hid hN2;simp only [z0,z1] at hK))
           |go_big_skip
           |((with_reducible refine wl ?_);refine ldKQ ?_)
           |(with_reducible refine en ?_))
          replace hK:=Know.shutW [rOw 58 elTele (.slice adt 1 1) [r'.tell j],rOw 43 elSight (.slice ade 1 1) [(⟨2,0,0,0,poseO,mv⟩:Sight)],rBlk b5 (Go.Sk.Move.cells mv) 38,rOw 58 elTele (.slice ad2 N2 cap2) (out++[r'.tell j])] HL2.out hK
          go_roundg (N - (j+1))
          case measure=>omega
          case rel=>exact ⟨j+1,ad2,N2,cap2,m5,out++[r'.tell j],by go_num,rfl,rfl,by omega,HN,hN2,by have h1:=hN2.out;have h2:=hon.out;rw [List.length_append] at h1;simp only [List.length_cons,List.length_nil] at h1;omega,hK.sub (.cons _ (.cons _ (.cons _ (.cons_cons _ (.cons_cons _ .slnil)))))⟩
        · skip
          have hll3:m1.l.length<=95000010:=by omega
          obtain ⟨m4,hm4⟩: ∃ m4,({m1 with l:=m1.l++[stampS m1.now j r'.pose ⟨2,0,0,0,poseO,mv⟩]}:WM)=m4:=⟨_,rfl⟩
          have hl4:m4.rs.length=N:=by rw [<-hm4];exact hl1
          have hr4:m4.rs[j]?=some r':=by rw [<-hm4];exact hr1
          have hll4:m4.l.length<=95000011:=by rw [<-hm4];show (m1.l++_).length<=_;rw [List.length_append];simp;omega
          have kS2:=Lib.hid (fun (W:World) (A L:List Res) (xa:Option Addr) (h:Know w W S (A++[rWLD c wp m1]) L) (hx:rOw 43 elSight (.slice xa 1 1) [(⟨2,0,0,0,poseO,mv⟩:Sight)]∈A)=>(by
           have:=calls_sees (ys:=[(⟨2,0,0,0,poseO,mv⟩:Sight)]) h hr1 (by simp) (by omega) (by rw [hl1];exact hrs) hx
           simp only [List.map_cons,List.map_nil,hm4] at this
           exact this:Calls Tryz.prog 38 #[.pointer (some ⟨wp,0,none⟩),.int .i64 j,.slice xa 1 1] W fun e w'=>e=.returned (.tuple #[])/\Know w w' S (A++[rWLD c wp m4]) L))
          obtain ⟨m5,hm5⟩: ∃ m5,({m4 with l:=m4.l++[stampS m4.now j r'.pose ⟨3,0,0,0,poseO,mvZ⟩]}:WM)=m5:=⟨_,rfl⟩
          have hl5:m5.rs.length=N:=by rw [<-hm5];exact hl4
          have hr5:m5.rs[j]?=some r':=by rw [<-hm5];exact hr4
          have kS3:=Lib.hid (fun (W:World) (A L:List Res) (xa:Option Addr) (h:Know w W S (A++[rWLD c wp m4]) L) (hx:rOw 43 elSight (.slice xa 1 1) [(⟨3,0,0,0,poseO,mvZ⟩:Sight)]∈A)=>(by
           have:=calls_sees (ys:=[(⟨3,0,0,0,poseO,mvZ⟩:Sight)]) h hr4 (by simp) (by omega) (by rw [hl4];exact hrs) hx
           simp only [List.map_cons,List.map_nil,hm5] at this
           exact this:Calls Tryz.prog 38 #[.pointer (some ⟨wp,0,none⟩),.int .i64 j,.slice xa 1 1] W fun e w'=>e=.returned (.tuple #[])/\Know w w' S (A++[rWLD c wp m5]) L))
          have HN:=Lib.hid (show m.ticks c (j+1)=(m5,out++[r'.tell j]) by
           rw [hnext,<-hm5,<-hm4,<-hm1]
           simp [WM.see,Seen.at,stampS,rawS,if_pos rfl])
          have kTe:=Lib.hid (fun (W:World) (ps2:List Nat) (p2:Nat) (h:Has W (rMany (robsW c ps2 m5.rs))) (hp2:ps2[j]?=some p2)=>rb_tell (Has.robW h hr5 hp2))
          have HJ5:=Lib.hid (show j<m5.rs.length by rw [hl5];exact hlt)
          have hol:out.length<=100:=by have:=hon.out;omega
          clear hnext hr hrw hp hlen q1 q2 q3 q4 q5 hm1 hl1 hr1 hll3 hm4 hl4 hr4 hll4 hm5 hl5 hr5 hll1
          simp only [rWd,wdCells,List.cons_append,List.nil_append] at hK
          go_wp2_with (first
           |((with_reducible refine wt 30 ?_);(refine wl_ixK (i:=j) (u:=p) hK rfl rfl rfl rfl ptrTy.und ptrTy.size (xs:=ps) (hu:=HP) (h:=?_);intro b30 k30 hat30))
           |((with_reducible refine wt 31 ?_);refine wl_loadA0 rfl rfl rfl (scalT (by decide)) (hat:=hat30) (h:=?_))
           |(go_at_call 39;(refine (kT.out _ [rOw 58 elTele (.slice oa on oc) out] _ hK).mono ?_;clear hK;rintro e w' ⟨rfl,hK⟩;replace hK:=HSH.out _ [rOw 58 elTele (.slice oa on oc) out] _ hK;simp only [List.cons_append,List.nil_append] at hK))
           |((with_reducible refine wl_at (o:=⟨some 5,.alloc _,_,_,_,_⟩) ?_)
             (refine wl_allocK (z:=.agg (moveZ).toArray) (zs:=moveZ) hK rfl rfl (by kernel_rfl) rfl ?_;clear hK;intro w5 b5 hK))
           |((with_reducible refine wl_at (o:=⟨none,.store 38 _ _,_,_,_,_⟩) ?_)
             (refine wl_storeWK (vs:=Go.Sk.Move.cells mv) hK rfl rfl rfl rfl (aggS (by decide)) (move_one _) (h:=?_);clear hK;intro w' hK;simp only [z0,z1] at hK))
           |(go_at_call 38;(first|(with_reducible refine (kS2.out _ [rOw 43 elSight (.slice ade 1 1) [(⟨2,0,0,0,poseO,mv⟩:Sight)],rBlk b5 (Go.Sk.Move.cells mv) 38,rOw 58 elTele (.slice oa on oc) out] _ ade hK (by simp)).mono ?_;clear hK;rintro e w' ⟨rfl,hK⟩;simp only [List.cons_append,List.nil_append] at hK)|(refine (kS3.out _ [rOw 43 elSight (.slice adh 1 1) [(⟨3,0,0,0,poseO,mvZ⟩:Sight)],rOw 43 elSight (.slice ade 1 1) [(⟨2,0,0,0,poseO,mv⟩:Sight)],rBlk b5 (Go.Sk.Move.cells mv) 38,rOw 58 elTele (.slice oa on oc) out] _ adh hK (by simp)).mono ?_;clear hK;rintro e w' ⟨rfl,hK⟩;simp only [List.cons_append,List.nil_append] at hK)))
           |((with_reducible refine wt 55 ?_);(refine wl_pure (v:=.agg (Sight.cells ⟨2,0,0,0,poseO,mv⟩).toArray) rfl (fun W=>by kernel_rfl) ?_))
           |((with_reducible refine wt 56 ?_);(refine wl_buildK 43 elSight [(⟨2,0,0,0,poseO,mv⟩:Sight)] hK rfl rfl (fun W=>by kernel_rfl) rfl (by decide) ?_;clear hK;intro ade w56 hK))
           |((with_reducible refine wt 62 ?_);(refine wl_pure (v:=.agg (Sight.cells ⟨3,0,0,0,poseO,mvZ⟩).toArray) rfl (fun W=>by kernel_rfl) ?_))
           |((with_reducible refine wt 63 ?_);(refine wl_buildK 43 elSight [(⟨3,0,0,0,poseO,mvZ⟩:Sight)] hK rfl rfl (fun W=>by kernel_rfl) rfl (by decide) ?_;clear hK;intro adh w63 hK))
           |((with_reducible refine wt 69 ?_);(obtain ⟨gp2,sp2,ra2,rc2,ps2,sa2,sc2,hl2,hK2⟩:=Know.openW [rOw 43 elSight (.slice adh 1 1) [(⟨3,0,0,0,poseO,mvZ⟩:Sight)],rOw 43 elSight (.slice ade 1 1) [(⟨2,0,0,0,poseO,mv⟩:Sight)],rBlk b5 (Go.Sk.Move.cells mv) 38,rOw 58 elTele (.slice oa on oc) out] hK;clear hK;have hK:=hK2;clear hK2;obtain ⟨p2,hp2⟩: ∃ p2,ps2[j]?=some p2:=⟨_,List.getElem?_eq_getElem (by rw [hl2];exact HJ5.out)⟩;have HP2:=Lib.hid hp2;have HL2:=Lib.hid hl2;clear hp2 hl2;simp only [rWd,wdCells,List.cons_append,List.nil_append] at hK;refine wl_loadK hK rfl rfl rfl (scalT (by decide)) (h:=?_)))
           |((with_reducible refine wt 71 ?_);(refine wl_ixK (i:=j) (u:=p2) hK rfl rfl rfl rfl ptrTy.und ptrTy.size (xs:=ps2) (hu:=HP2) (h:=?_);intro b71 k71 hat71))
           |((with_reducible refine wt 72 ?_);refine wl_loadA0 rfl rfl rfl (scalT (by decide)) (hat:=hat71) (h:=?_))
           |(go_at_call 41;(refine (kTe.out _ ps2 p2 hK.own HP2.out).mono ?_;rintro e w' ⟨adt,rfl,hT⟩;replace hK:=hK.push1 hT;clear hT))
           |((with_reducible refine wt 74 ?_)
             (refine wl_appK (xs:=out) (ys:=[r'.tell j]) hK teleTyW rfl rfl rfl rfl hK.rd (by simp;unfold maxLen;omega) (by simp;omega) (h:=?_);clear hK;intro ad2 N2 cap2 w74 hN2 hK;replace hN2:=Lib.hid hN2;simp only [z0,z1] at hK))
           |go_big_skip
           |((with_reducible refine wl ?_);refine ldKQ ?_)
           |(with_reducible refine en ?_))
          replace hK:=Know.shutW [rOw 58 elTele (.slice adt 1 1) [r'.tell j],rOw 43 elSight (.slice adh 1 1) [(⟨3,0,0,0,poseO,mvZ⟩:Sight)],rOw 43 elSight (.slice ade 1 1) [(⟨2,0,0,0,poseO,mv⟩:Sight)],rBlk b5 (Go.Sk.Move.cells mv) 38,rOw 58 elTele (.slice ad2 N2 cap2) (out++[r'.tell j])] HL2.out hK
          go_roundg (N - (j+1))
          case measure=>omega
          case rel=>exact ⟨j+1,ad2,N2,cap2,m5,out++[r'.tell j],by go_num,rfl,rfl,by omega,HN,hN2,by have h1:=hN2.out;have h2:=hon.out;rw [List.length_append] at h1;simp only [List.length_cons,List.length_nil] at h1;omega,hK.sub (.cons _ (.cons _ (.cons _ (.cons _ (.cons_cons _ (.cons_cons _ .slnil))))))⟩
  · have hjN:j=N:=by omega
    subst hjN
    have dl:decide ((j:Int)<(j:Int))=false:=decide_eq_false (by omega)
    go_wp2_with (first
     |go_big_skip
     |((with_reducible refine wl ?_);refine ldKQ ?_)
     |(with_reducible refine en ?_))
    go_ret
    have hh:=hon.out
    subst hh
    rw [hT.out]
    exact ⟨oa,oc,rfl,hK.turns⟩
end Go.Proofs.YtngeeilkpnihmaaGreatDoor
