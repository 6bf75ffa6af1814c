/- The world: a telegram that comes. -/
import Derived.Test.YtngeeilkpnihmaaGreatDoorWdAZ
set_option linter.all false
namespace Go.Proofs.YtngeeilkpnihmaaGreatDoor
open Go Go.Sk Go.RowKit
set_option maxRecDepth 100000
theorem heard_how {c:ConfP} {k:KinP} {i:Int} {r:RM} {t:Tele} {v:RM×List Tele×Int} (hv:r.hear c k i t=v):v.2.2=0\/v.2.2=1\/v.2.2=2\/v.2.2=3:=by
 subst hv
 unfold RM.hear RM.goes RM.stops
 split
 · exact .inl rfl
 · split
   · split
     · exact .inr (.inr (.inl rfl))
     · split
       · exact .inl rfl
       · split
         · exact .inl rfl
         · split
           · exact .inr (.inl rfl)
           · exact .inl rfl
   · split
     · split
       · exact .inl rfl
       · split
         · cases r.under with
           |none=>exact .inr (.inr (.inr rfl))
           |some u=>exact .inl rfl
         · split
           · exact .inl rfl
           · exact .inl rfl
     · exact .inl rfl
set_option maxHeartbeats 8000000 in
theorem w_hear {c:ConfP} {wp:Nat} {m:WM} {n:Int} {t:Tele} {v:WM×List Tele} {w:World} {S:Nat->Prop} (hok: ∀ (i:Nat) r,m.rs[i]?=some r->RMOk c r n) (hn:n<=1000000000) (hmn:t.move.n<=9223372036854775807) (hml:m.l.length<=90000000) (hrs:m.rs.length<=64) (hv:m.hear c t=v) (h:Know w w S [rWLD c wp m] [stepsR]):
 Calls Tryz.prog 18 #[.pointer (some ⟨wp,0,none⟩),.agg t.cells.toArray] w fun e w'=> ∃ ad cap,e=.returned (.slice ad v.2.length cap)/\Turns [rOw 58 elTele (.slice ad v.2.length cap) v.2,rWLD c wp v.1] w w' S:=by
 obtain ⟨gp,sp,ra,rc,ps,sa,sc,hlen,hK⟩:=Know.openW [] h
 clear h
 by_cases hin:0<=t.robot/\t.robot<m.rs.length
 · obtain ⟨hin0,hin1⟩:=hin
   obtain ⟨i,hi⟩: ∃ i:Nat,t.robot=(i:Int):=⟨t.robot.toNat,by omega⟩
   have hil:i<m.rs.length:=by omega
   obtain ⟨r,hr⟩: ∃ r,m.rs[i]?=some r:=⟨_,List.getElem?_eq_getElem hil⟩
   obtain ⟨p,hp⟩: ∃ p,ps[i]?=some p:=⟨_,List.getElem?_eq_getElem (by rw [hlen];exact hil)⟩
   obtain ⟨u,hu⟩: ∃ u,r.hear c (kinOf c) t.robot t=u:=⟨_,rfl⟩
   unfold WM.hear at hv
   rw [if_pos hin0,show t.robot.toNat=i by omega,hr] at hv
   simp only [hu] at hv
   have kH:=Lib.hid (fun (W:World) (S:Nat->Prop) (h:Know W W S [rROB c i p r] [stepsR])=>rb_hear (i:=(i:Int)) (v:=u) (hok i r hr) hn hmn (by rw [<-hi];exact hu) h)
   have kRb:=Lib.hid (fun (W:World) (g1 g2 g4 g5:Value) (h1:Has W (rBlk wp [g1,g2,.slice ra ps.length rc,g4,g5] 80)) (h2:Has W (rOw 81 elPtr (.slice ra ps.length rc) ps))=>(show Calls Tryz.prog 30 #[.pointer (some ⟨wp,0,none⟩),.int .i64 t.robot] W (Ret (.pointer (some ⟨p,0,none⟩)) W) by
    have:=w_robot (i:=t.robot) h1 h2 rfl (by omega)
    rwa [hi,robotV_at hp,<-hi] at this))
   have hh:=heard_how hu
   obtain ⟨r',l,how⟩:=u
   simp only at hh hv kH
   obtain ⟨m1,hm1⟩: ∃ m1,({m with rs:=m.rs.set i r'}:WM)=m1:=⟨_,rfl⟩
   have hr1:m1.rs[i]?=some r':=by rw [<-hm1];exact List.getElem?_set_self hil
   have hlen1:ps.length=m1.rs.length:=by rw [<-hm1];simp [hlen]
   have kNo:=Lib.hid (fun (W:World) (h:Has W (rMany (robsW c ps m1.rs)))=>rb_now (Has.robW h hr1 hp))
   have hml1:m1.l.length<=90000000:=by rw [<-hm1];exact hml
   have hrs1:m1.rs.length<=64:=by rw [<-hlen1];omega
   have HH:=Lib.hid (fun (W:World) (A L:List Res) (h:Know w W S (A++rWd c wp gp sp ra rc ps sa sc m) L) (hs:stepsR∈L)=>(by
    have:=hearsW (v:=(r',l,how)) h hr hp hs (fun S hS=>kH.out W S hS)
    rw [hm1] at this
    exact this:Calls Tryz.prog 36 #[.pointer (some ⟨p,0,none⟩),.agg t.cells.toArray] W fun e w'=> ∃ ad cap,e=.returned (.tuple #[.slice ad l.length cap,.int .i64 how])/\Know w w' S (rOw 58 elTele (.slice ad l.length cap) l::A++rWd c wp gp sp ra rc ps sa sc m1) L))
   have HSH:=Lib.hid (fun (W:World) (A L:List Res) (h:Know w W S (A++rWd c wp gp sp ra rc ps sa sc m1) L)=>Know.shutW A hlen1 h)
   have HSE:=Lib.hid (fun (W:World) (A L:List Res) (xa:Option Addr) (xc:Nat) (y:Sight) (h:Know w W S (A++[rWLD c wp m1]) L) (hx:rOw 43 elSight (.slice xa 1 xc) [y]∈A)=>(show Calls Tryz.prog 38 #[.pointer (some ⟨wp,0,none⟩),.int .i64 t.robot,.slice xa 1 xc] W fun e w'=>e=.returned (.tuple #[])/\Know w w' S (A++[rWLD c wp {m1 with l:=m1.l++[stampS m1.now i r'.pose y]}]) L from by
    rw [hi]
    exact calls_sees (ys:=[y]) h hr1 (by simp) (by omega) hrs1 hx))
   have hv2:v=(m1.see i r'.pose (heardS how r'.now),l):=by rw [<-hv,<-hm1]
   clear hv hu hm1 hr hp hok hr1 hlen1 hlen hil kH
   have HI:=Lib.hid hi
   clear hi
   simp only [rWd,wdCells,List.nil_append] at hK
   rcases hh with rfl|rfl|rfl|rfl
   · rw [show m1.see i r'.pose (heardS 0 r'.now)=m1 by simp [WM.see,heardS]] at hv2
     subst hv2
     go_enter Tryz.func18,Tryz.ntmps18
     go_wp2_with (first
      |((with_reducible refine wb 3 ?_)
        (refine wl_boxK hK rfl rfl rfl rfl ?_;clear hK;intro w3 b3 hK))
      |(go_at_call 30;(refine (hK.quiet (kRb.out _ _ _ _ _ hK.own hK.own)).mono ?_;clear hK;rintro e w' ⟨rfl,hK⟩))
      |(go_at_call 36;(refine (HH.out _ [rBlk b3 (Tele.cells t) 58] _ hK (by simp)).mono ?_;clear hK;rintro e w' ⟨ad,cap,rfl,hK⟩;simp only [rWd,wdCells,List.cons_append,List.nil_append] at hK))
      |go_big_skip
      |((with_reducible refine wl ?_);refine ldKQ ?_)
      |(with_reducible refine en ?_))
     replace hK:=HSH.out _ [rOw 58 elTele (.slice ad l.length cap) l,rBlk b3 (Tele.cells t) 58] _ hK
     go_ret
     exact ⟨ad,cap,rfl,(hK.sub (.cons_cons _ (.cons _ (.cons_cons _ .slnil)))).turns⟩
   · rw [show m1.see i r'.pose (heardS 1 r'.now)={m1 with l:=m1.l++[stampS m1.now i r'.pose ⟨1,0,0,0,poseO,r'.now⟩]} from rfl] at hv2
     subst hv2
     go_enter Tryz.func18,Tryz.ntmps18
     go_wp2_with (first
      |((with_reducible refine wb 3 ?_)
        (refine wl_boxK hK rfl rfl rfl rfl ?_;clear hK;intro w3 b3 hK))
      |(go_at_call 30;(refine (hK.quiet (kRb.out _ _ _ _ _ hK.own hK.own)).mono ?_;clear hK;rintro e w' ⟨rfl,hK⟩))
      |(go_at_call 36;(refine (HH.out _ [rBlk b3 (Tele.cells t) 58] _ hK (by simp)).mono ?_;clear hK;rintro e w' ⟨ad,cap,rfl,hK⟩;simp only [rWd,wdCells,List.cons_append,List.nil_append] at hK))
      |(go_at_call 37;(refine (hK.quiet (kNo.out _ hK.own)).mono ?_;clear hK;rintro e w' ⟨rfl,hK⟩))
      |((with_reducible refine wl_at (o:=⟨some 8,.alloc _,_,_,_,_⟩) ?_)
        (refine wl_allocK (z:=.agg (moveZ).toArray) (zs:=moveZ) hK rfl rfl (by kernel_rfl) rfl ?_;clear hK;intro w8 b8 hK))
      |((with_reducible refine wl_at (o:=⟨none,.store 38 _ _,_,_,_,_⟩) ?_)
        (refine wl_storeWK (vs:=Go.Sk.Move.cells r'.now) hK rfl rfl rfl rfl (aggS (by decide)) (move_one _) (h:=?_);clear hK;intro w' hK;simp only [z0,z1] at hK))
      |((with_reducible refine wt 34 ?_);(refine wl_pure (v:=.agg (Sight.cells ⟨1,0,0,0,poseO,r'.now⟩).toArray) rfl (fun W=>by kernel_rfl) ?_))
      |((with_reducible refine wt 35 ?_);(refine wl_buildK 43 elSight [(⟨1,0,0,0,poseO,r'.now⟩:Sight)] hK rfl rfl (fun W=>by kernel_rfl) rfl (by decide) ?_;clear hK;intro adb w35 hK))
      |(go_at_call 38;(replace hK:=HSH.out _ [rOw 43 elSight (.slice adb 1 1) [(⟨1,0,0,0,poseO,r'.now⟩:Sight)],rBlk b8 (Go.Sk.Move.cells r'.now) 38,rOw 58 elTele (.slice ad l.length cap) l,rBlk b3 (Tele.cells t) 58] _ hK;refine (HSE.out _ [rOw 43 elSight (.slice adb 1 1) [(⟨1,0,0,0,poseO,r'.now⟩:Sight)],rBlk b8 (Go.Sk.Move.cells r'.now) 38,rOw 58 elTele (.slice ad l.length cap) l,rBlk b3 (Tele.cells t) 58] _ adb 1 (⟨1,0,0,0,poseO,r'.now⟩:Sight) hK (by simp)).mono ?_;clear hK;rintro e w' ⟨rfl,hK⟩;simp only [List.cons_append,List.nil_append] at hK))
      |go_big_skip
      |((with_reducible refine wl ?_);refine ldKQ ?_)
      |(with_reducible refine en ?_))
     go_ret
     exact ⟨ad,cap,rfl,(hK.sub (.cons _ (.cons _ (.cons_cons _ (.cons _ (.cons_cons _ .slnil)))))).turns⟩
   · rw [show m1.see i r'.pose (heardS 2 r'.now)={m1 with l:=m1.l++[stampS m1.now i r'.pose ⟨7,0,0,0,poseO,mvZ⟩]} from rfl] at hv2
     subst hv2
     go_enter Tryz.func18,Tryz.ntmps18
     go_wp2_with (first
      |((with_reducible refine wb 3 ?_)
        (refine wl_boxK hK rfl rfl rfl rfl ?_;clear hK;intro w3 b3 hK))
      |(go_at_call 30;(refine (hK.quiet (kRb.out _ _ _ _ _ hK.own hK.own)).mono ?_;clear hK;rintro e w' ⟨rfl,hK⟩))
      |(go_at_call 36;(refine (HH.out _ [rBlk b3 (Tele.cells t) 58] _ hK (by simp)).mono ?_;clear hK;rintro e w' ⟨ad,cap,rfl,hK⟩;simp only [rWd,wdCells,List.cons_append,List.nil_append] at hK))
      |((with_reducible refine wt 42 ?_);(refine wl_pure (v:=.agg (Sight.cells ⟨7,0,0,0,poseO,mvZ⟩).toArray) rfl (fun W=>by kernel_rfl) ?_))
      |((with_reducible refine wt 43 ?_);(refine wl_buildK 43 elSight [(⟨7,0,0,0,poseO,mvZ⟩:Sight)] hK rfl rfl (fun W=>by kernel_rfl) rfl (by decide) ?_;clear hK;intro adb w43 hK))
      |(go_at_call 38;(replace hK:=HSH.out _ [rOw 43 elSight (.slice adb 1 1) [(⟨7,0,0,0,poseO,mvZ⟩:Sight)],rOw 58 elTele (.slice ad l.length cap) l,rBlk b3 (Tele.cells t) 58] _ hK;refine (HSE.out _ [rOw 43 elSight (.slice adb 1 1) [(⟨7,0,0,0,poseO,mvZ⟩:Sight)],rOw 58 elTele (.slice ad l.length cap) l,rBlk b3 (Tele.cells t) 58] _ adb 1 (⟨7,0,0,0,poseO,mvZ⟩:Sight) hK (by simp)).mono ?_;clear hK;rintro e w' ⟨rfl,hK⟩;simp only [List.cons_append,List.nil_append] at hK))
      |go_big_skip
      |((with_reducible refine wl ?_);refine ldKQ ?_)
      |(with_reducible refine en ?_))
     go_ret
     exact ⟨ad,cap,rfl,(hK.sub (.cons _ (.cons_cons _ (.cons _ (.cons_cons _ .slnil))))).turns⟩
   · rw [show m1.see i r'.pose (heardS 3 r'.now)={m1 with l:=m1.l++[stampS m1.now i r'.pose ⟨3,0,0,0,poseO,mvZ⟩]} from rfl] at hv2
     subst hv2
     go_enter Tryz.func18,Tryz.ntmps18
     go_wp2_with (first
      |((with_reducible refine wb 3 ?_)
        (refine wl_boxK hK rfl rfl rfl rfl ?_;clear hK;intro w3 b3 hK))
      |(go_at_call 30;(refine (hK.quiet (kRb.out _ _ _ _ _ hK.own hK.own)).mono ?_;clear hK;rintro e w' ⟨rfl,hK⟩))
      |(go_at_call 36;(refine (HH.out _ [rBlk b3 (Tele.cells t) 58] _ hK (by simp)).mono ?_;clear hK;rintro e w' ⟨ad,cap,rfl,hK⟩;simp only [rWd,wdCells,List.cons_append,List.nil_append] at hK))
      |((with_reducible refine wt 50 ?_);(refine wl_pure (v:=.agg (Sight.cells ⟨3,0,0,0,poseO,mvZ⟩).toArray) rfl (fun W=>by kernel_rfl) ?_))
      |((with_reducible refine wt 51 ?_);(refine wl_buildK 43 elSight [(⟨3,0,0,0,poseO,mvZ⟩:Sight)] hK rfl rfl (fun W=>by kernel_rfl) rfl (by decide) ?_;clear hK;intro adb w51 hK))
      |(go_at_call 38;(replace hK:=HSH.out _ [rOw 43 elSight (.slice adb 1 1) [(⟨3,0,0,0,poseO,mvZ⟩:Sight)],rOw 58 elTele (.slice ad l.length cap) l,rBlk b3 (Tele.cells t) 58] _ hK;refine (HSE.out _ [rOw 43 elSight (.slice adb 1 1) [(⟨3,0,0,0,poseO,mvZ⟩:Sight)],rOw 58 elTele (.slice ad l.length cap) l,rBlk b3 (Tele.cells t) 58] _ adb 1 (⟨3,0,0,0,poseO,mvZ⟩:Sight) hK (by simp)).mono ?_;clear hK;rintro e w' ⟨rfl,hK⟩;simp only [List.cons_append,List.nil_append] at hK))
      |go_big_skip
      |((with_reducible refine wl ?_);refine ldKQ ?_)
      |(with_reducible refine en ?_))
     go_ret
     exact ⟨ad,cap,rfl,(hK.sub (.cons _ (.cons_cons _ (.cons _ (.cons_cons _ .slnil))))).turns⟩
 · have hv1:v=(m,[]):=by
    rw [<-hv]
    unfold WM.hear
    split
    · rw [List.getElem?_eq_none (by omega)]
    · rfl
   subst hv1
   have kRb:=Lib.hid (fun (W:World) (g1 g2 g4 g5:Value) (h1:Has W (rBlk wp [g1,g2,.slice ra ps.length rc,g4,g5] 80)) (h2:Has W (rOw 81 elPtr (.slice ra ps.length rc) ps))=>(show Calls Tryz.prog 30 #[.pointer (some ⟨wp,0,none⟩),.int .i64 t.robot] W (Ret (.pointer none) W) by
    have:=w_robot (i:=t.robot) h1 h2 rfl (by omega)
    rwa [robotV_not (by omega)] at this))
   have HSH:=Lib.hid (fun (W:World) (A L:List Res) (h:Know w W S (A++rWd c wp gp sp ra rc ps sa sc m) L)=>Know.shutW A hlen h)
   clear hv hok hlen hin
   simp only [rWd,wdCells,List.nil_append] at hK
   go_enter Tryz.func18,Tryz.ntmps18
   go_wp2_with (first
    |((with_reducible refine wb 3 ?_)
      (refine wl_boxK hK rfl rfl rfl rfl ?_;clear hK;intro w3 b3 hK))
    |(go_at_call 30;(refine (hK.quiet (kRb.out _ _ _ _ _ hK.own hK.own)).mono ?_;clear hK;rintro e w' ⟨rfl,hK⟩))
    |go_big_skip
    |((with_reducible refine wl ?_);refine ldKQ ?_)
    |(with_reducible refine en ?_))
   go_ret
   exact ⟨none,0,rfl,((HSH.out _ [rOw 58 elTele (.slice none 0 0) [],rBlk b3 (Tele.cells t) 58] _ (hK.nil 58 elTele)).sub (.cons_cons _ (.cons _ (.cons_cons _ .slnil)))).turns⟩
end Go.Proofs.YtngeeilkpnihmaaGreatDoor
