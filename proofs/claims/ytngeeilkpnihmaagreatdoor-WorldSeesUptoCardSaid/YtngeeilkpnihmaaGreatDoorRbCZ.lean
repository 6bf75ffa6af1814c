/- Texts of mine that belong together: Rb9, Rb10, Rb11, Rb12, Rb13, Rf0. -/
import Derived.Test.YtngeeilkpnihmaaGreatDoorRbBZ
import Derived.Test.YtngeeilkpnihmaaGreatDoorKnAZ
import Derived.Test.YtngeeilkpnihmaaGreatDoorStAZ
set_option linter.all false
namespace Go.Proofs.YtngeeilkpnihmaaGreatDoor
open Go Go.Sk Go.RowKit
set_option maxRecDepth 100000
theorem wfp {p:Pose} (h:WfP p):PoseWf p:=⟨h.x,h.y⟩
set_option maxHeartbeats 4000000 in
theorem rb_cuts {c:ConfP} {i:Int} {p gp kp up:Nat} {r:RM} {u:Going} {n:Int} {w0 w:World} {F:Nat->Prop} {M L:List Res} (hg:0<=u.t/\u.t<=n/\1<=u.left/\u.left<=4611686018427387904/\(u.cut=false->legalP c u.move=true)/\WfP u.move.src/\WfP u.move.dst) (hu:r.under=some u)
 (hK:Know w0 w F (rBlk p (rbCells i gp kp up r) 120::rGRID c gp::rKIN (kinOf c) kp::rBlk up (goCells u) 132::M) (stepsR::L)):
 Calls Tryz.prog 91 #[.pointer (some ⟨p,0,none⟩)] w fun e w'=>e=.returned (.tuple #[])/\Know w0 w' F (rBlk p (rbCells i gp kp up r) 120::rGRID c gp::rKIN (kinOf c) kp::rBlk up (goCells (u.cuts (kinOf c))) 132::M) (stepsR::L):=by
 obtain ⟨g0,g1,g2,g3,g4,g5,g6⟩:=hg
 have hk:(kinOf c).Ok:=Has.kinOk (hK.own (r:=rKIN (kinOf c) kp))
 obtain ⟨pose,load,epoch,num,under,stopping,delay⟩:=r
 simp only at hu
 subst hu
 simp only [rbCells,underV] at hK ⊢
 obtain ⟨v,hv⟩: ∃ v,u.cuts (kinOf c)=v:=⟨_,rfl⟩
 rw [hv]
 unfold Going.cuts at hv
 obtain ⟨⟨mk,md,mn,ms,mt,ma,me⟩,ut,ul,uc⟩:=u
 simp only at g0 g1 g2 g3 g4 g5 g6 hv
 simp only [goCells] at hK
 by_cases hc:mk=1/\uc=false
 · obtain ⟨rfl,rfl⟩:=hc
   rw [if_pos ⟨rfl,rfl⟩] at hv
   obtain ⟨l1,l2,_,_⟩:=legal_run (g4 rfl) rfl
   simp only at l1 l2
   obtain ⟨s0,s1,s2,s3⟩:=KinP.stop_is hk (n:=mn) (t:=ut) l1.1
   obtain ⟨cl,hcl⟩: ∃ cl,((kinOf c).stop mn ut).1=cl:=⟨_,rfl⟩
   obtain ⟨tk,htk⟩: ∃ tk,((kinOf c).stop mn ut).2=tk:=⟨_,rfl⟩
   have kT:=Lib.hid (fun (W:World) (S:Nat->Prop) (h:(rKIN (kinOf c) kp).p W S)=>kn_stop (n:=mn) (t:=ut) h)
   rw [hcl,htk] at kT hv
   rw [hcl] at s0 s1
   rw [htk] at s2 s3
   have kS:=Lib.hid (fun (W:World) (h:Has W stepsR)=>g_shift (g:=.pointer (some ⟨gp,0,none⟩)) (d:=md) (n:=cl) h (wfp g5))
   rw [show shiftV ms md cl=shiftP ms md cl by unfold shiftV;rw [show shiftOk md cl=true from decide_eq_true (by omega)];rfl] at kS
   obtain ⟨P,hP⟩: ∃ P,shiftP ms md cl=P:=⟨_,rfl⟩
   rw [hP] at kS hv
   subst hv
   clear hcl htk hP g4
   simp only [goCells]
   go_enter Tryz.func91,Tryz.ntmps91
   go_wp2_with (first
    |(go_at_call 121;(refine (hK.callsI (fun S hS=>kT.out _ _ hS)).mono ?_;clear hK;rintro e w' ⟨rfl,hK⟩;simp only [z0,z1] at hK))
    |(go_at_call 122;(refine (hK.quiet (kS.out _ hK.lent)).mono ?_;clear hK;rintro e w' ⟨rfl,hK⟩))
    |((with_reducible refine tx 2 hK ?_);clear hK;intro w' hK)
    |((with_reducible refine tx 6 hK ?_);clear hK;intro w' hK)
    |((with_reducible refine ws 61 ?_);(refine wl_loadPK (Pose.cells ms) hK rfl rfl rfl (aggT (by decide)) (h:=?_)))
    |((with_reducible refine wl_at (o:=⟨none,.store 4 _ _,_,_,_,_⟩) ?_);(refine wl_storeK (v:=.bool true) hK rfl rfl rfl rfl (sizT (by decide)) rfl (hk:=by simp) (h:=?_);clear hK;intro w' hK;simp only [z0,z1] at hK))
    |((with_reducible refine wl_at (o:=⟨none,.store 3 (.tmp 45) _,_,_,_,_⟩) ?_);(refine wl_storeK (v:=.int .i64 (max 1 tk)) hK rfl rfl rfl rfl (sizT (by decide)) rfl (hk:=by simp) (h:=?_);clear hK;intro w' hK;simp only [z0,z1] at hK))
    |((with_reducible refine wl_at (o:=⟨none,.store 3 (.tmp 50) _,_,_,_,_⟩) ?_);(refine wl_storeK (v:=.int .i64 cl) hK rfl rfl rfl rfl (sizT (by decide)) rfl (hk:=by simp) (h:=?_);clear hK;intro w' hK;simp only [z0,z1] at hK))
    |((with_reducible refine wl_at (o:=⟨none,.store 36 _ _,_,_,_,_⟩) ?_)
      (refine wl_storePK (n:=3) (Pose.cells P) [.int .i64 1,.int .i64 md,.int .i64 cl,.int .i64 ms.at_.x,.int .i64 ms.at_.y,.bool ms.down,.int .i64 P.at_.x,.int .i64 P.at_.y,.bool P.down,.int .i64 ma,.int .i64 me,.int .i64 ut,.int .i64 (max 1 tk),.bool true] hK rfl rfl rfl rfl (aggS (by decide)) (pose_one _) (hk:=by simp) (h:=?_);clear hK;intro w' hK;simp only [z0,z1] at hK))
    |((with_reducible refine wl_at (o:=⟨_,.call {callee:=.builtin .min,args:= #[_,_],argTypes:=_},_,_,_,_⟩) ?_);refine wl_min2 rfl rfl rfl rfl ?_)
    |((with_reducible refine wl_at (o:=⟨_,.call {callee:=.builtin .max,args:= #[_,_],argTypes:=_},_,_,_,_⟩) ?_);refine wl_max2 rfl rfl rfl rfl ?_)
    |((with_reducible refine wl_at (o:=⟨_,.call {callee:=.builtin .min,args:= #[_,_,_],argTypes:=_},_,_,_,_⟩) ?_);refine wl_min3 rfl rfl rfl rfl rfl ?_)
    |go_big_skip
    |go_big_skip
    |((with_reducible refine wl ?_);refine ldQ ?_)
    |(with_reducible refine en ?_))
   first|(refine bodyPost_ret (results_none rfl _ _ _) rfl ?_)|(refine bodyPost_end (results_none rfl _ _ _) rfl ?_)
   exact ⟨rfl,hK⟩
 · rw [if_neg hc] at hv
   subst hv
   clear g4
   simp only [goCells]
   by_cases hm:mk=1
   · have hcu:uc=true:=by cases uc with|true=>rfl|false=>exact absurd ⟨hm,rfl⟩ hc
     subst hcu
     have d1:(mk !=1)=false:=by simp [hm]
     clear hc
     go_enter Tryz.func91,Tryz.ntmps91
     go_wp2_with (first
      |go_big_skip
      |go_big_skip
      |((with_reducible refine wl ?_);refine ldQ ?_)
      |(with_reducible refine en ?_))
     first|(refine bodyPost_ret (results_none rfl _ _ _) rfl ?_)|(refine bodyPost_end (results_none rfl _ _ _) rfl ?_)
     exact ⟨rfl,hK⟩
   · have d1:(mk !=1)=true:=bne_iff_ne.2 hm
     clear hc
     go_enter Tryz.func91,Tryz.ntmps91
     go_wp2_with (first
      |go_big_skip
      |go_big_skip
      |((with_reducible refine wl ?_);refine ldQ ?_)
      |(with_reducible refine en ?_))
     first|(refine bodyPost_ret (results_none rfl _ _ _) rfl ?_)|(refine bodyPost_end (results_none rfl _ _ _) rfl ?_)
     exact ⟨rfl,hK⟩
end Go.Proofs.YtngeeilkpnihmaaGreatDoor
namespace Go.Proofs.YtngeeilkpnihmaaGreatDoor
open Go Go.Sk Go.RowKit
set_option maxRecDepth 100000
def hearEnd (c:ConfP) (i:Int) (p:Nat) (v:RM×List Tele×Int) (w:World) (S:Nat->Prop) (en:Ending) (w':World):Prop:=
 ∃ ad cap,en=.returned (.tuple #[.slice ad v.2.1.length cap,.int .i64 v.2.2])/\Turns [rOw 58 elTele (.slice ad v.2.1.length cap) v.2.1,rROB c i p v.1] w w' S
theorem hearEnd_nil {c:ConfP} {i:Int} {p gp kp up:Nat} {r:RM} {how:Int} {w w':World} {S:Nat->Prop} {L:List Res} (hK:Know w w' S (rRb c i p gp kp up r) L):hearEnd c i p (r,[],how) w S (.returned (.tuple #[.slice none 0 0,.int .i64 how])) w':=
 ⟨none,0,rfl,(Know.robAll (gp:=gp) (kp:=kp) (up:=up) (hK.nil 58 elTele)).turns⟩
set_option maxHeartbeats 4000000 in
theorem rb_stops {c:ConfP} {i e:Int} {p:Nat} {r:RM} {n:Int} {w:World} {S:Nat->Prop} {v:RM×List Tele×Int} (hok:RMOk c r n) (hv:r.stops (kinOf c) i e=v) (h:Know w w S [rROB c i p r] [stepsR]):
 Calls Tryz.prog 66 #[.pointer (some ⟨p,0,none⟩),.int .i64 e] w (hearEnd c i p v w S):=by
 unfold RM.stops at hv
 by_cases h1:e<r.epoch
 · rw [if_pos h1] at hv
   subst hv
   obtain ⟨gp,kp,up,hK⟩:=Know.rob h
   clear h
   simp only [rRb,rbCells] at hK
   have d1:decide (e<r.epoch)=true:=decide_eq_true h1
   go_enter Tryz.func66,Tryz.ntmps66
   go_wp2_with (first
    |go_big_skip
    |go_big_skip
    |((with_reducible refine wl ?_);refine ldQ ?_)
    |(with_reducible refine en ?_))
   go_ret2
   exact hearEnd_nil (gp:=gp) (kp:=kp) (up:=up) hK
 · rw [if_neg h1] at hv
   by_cases h2:r.epoch<e
   · rw [if_pos h2] at hv
     cases hu:r.under with
     |none=>
      rw [hu] at hv
      simp only at hv
      subst hv
      refine (rb_stops_stand (h.subL (by simp)) hu h2 hok.epoch).mono ?_
      rintro en w' ⟨ad,rfl,hT⟩
      rw [hu] at hT
      exact ⟨ad,1,rfl,hT⟩
     |some u=>
      rw [hu] at hv
      simp only at hv
      subst hv
      have hg:=hok.going u hu
      obtain ⟨gp,kp,up,hK⟩:=Know.rob h
      clear h hok
      obtain ⟨pose,load,epoch,num,under,stopping,delay⟩:=r
      simp only at hu h1 h2
      subst hu
      obtain ⟨v,hv⟩: ∃ v,u.cuts (kinOf c)=v:=⟨_,rfl⟩
      have kC:=Lib.hid (fun (W:World) (hK:Know w W S (rBlk p (rbCells i gp kp up ⟨pose,load,e,0,some u,true,delay⟩) 120::rGRID c gp::rKIN (kinOf c) kp::rBlk up (goCells u) 132::[]) (stepsR::[]))=>rb_cuts (r:=⟨pose,load,e,0,some u,true,delay⟩) (n:=n) hg rfl hK)
      rw [hv] at kC ⊢
      simp only [rRb,rbCells,underV,underRes] at hK
      have d1:decide (e<epoch)=false:=decide_eq_false h1
      have d2:decide (epoch<e)=true:=decide_eq_true h2
      clear hg hv
      go_enter Tryz.func66,Tryz.ntmps66
      go_wp2_with (first
       |((with_reducible refine wl_at (o:=⟨none,.store 3 (.tmp 25) _,_,_,_,_⟩) ?_);(refine wl_storeK (v:=.int .i64 e) hK rfl rfl rfl rfl (sizT (by decide)) rfl (hk:=by simp) (h:=?_);clear hK;intro w' hK;simp only [z0,z1] at hK))
       |((with_reducible refine wl_at (o:=⟨none,.store 3 (.tmp 27) _,_,_,_,_⟩) ?_);(refine wl_storeK (v:=.int .i64 0) hK rfl rfl rfl rfl (sizT (by decide)) rfl (hk:=by simp) (h:=?_);clear hK;intro w' hK;simp only [z0,z1] at hK))
       |((with_reducible refine wl_at (o:=⟨none,.store 4 _ _,_,_,_,_⟩) ?_);(refine wl_storeK (v:=.bool true) hK rfl rfl rfl rfl (sizT (by decide)) rfl (hk:=by simp) (h:=?_);clear hK;intro w' hK;simp only [z0,z1] at hK))
       |(go_at_call 91;(refine (kC.out _ hK).mono ?_;clear hK;rintro en w' ⟨rfl,hK⟩))
       |go_big_skip
       |go_big_skip
       |((with_reducible refine wl ?_);refine ldQ ?_)
       |(with_reducible refine en ?_))
      go_ret2
      exact hearEnd_nil (gp:=gp) (kp:=kp) (up:=up) hK
   · rw [if_neg h2] at hv
     have he:r.epoch=e:=by omega
     subst he
     have d1:decide (r.epoch<r.epoch)=false:=decide_eq_false (by omega)
     by_cases h3:r.epoch=0\/r.under.isSome=true\/r.num≠0
     · rw [if_pos h3] at hv
       subst hv
       obtain ⟨gp,kp,up,hK⟩:=Know.rob h
       have hD:(fun (v:RM)=>hearEnd c i p (v,[],0) w S)=fun v=>hearEnd c i p (v,[],0) w S:=rfl
       clear h hok hD h1 h2
       obtain ⟨R,hR⟩: ∃ R,R=r:=⟨_,rfl⟩
       have HF:=Lib.hid (fun (W:World) (hK:Know w W S (rRb c i p gp kp up r) [stepsR])=>hearEnd_nil (how:=0) (gp:=gp) (kp:=kp) (up:=up) hK)
       have hend: ∀ W,Know w W S (rRb c i p gp kp up r) [stepsR]->hearEnd c i p (r,[],0) w S (.returned (.tuple #[.slice none 0 0,.int .i64 0])) W:=HF.out
       have HE:=Lib.hid hend
       clear HF hend hR
       generalize hX:hearEnd c i p (r,[],0) w S=X at HE ⊢
       clear hX
       obtain ⟨pose,load,epoch,num,under,stopping,delay⟩:=r
       simp only [rRb,rbCells] at hK HE
       simp only at h3 d1
       rcases under with _|u
       · simp only [underV,underRes] at hK HE
         by_cases h4:epoch=0
         · have d4:(epoch == 0)=true:=beq_iff_eq.2 h4
           have d4':decide (epoch=0)=true:=decide_eq_true h4
           clear h3 h4
           go_enter Tryz.func66,Tryz.ntmps66
           go_wp2_with (first
            |go_big_skip
            |go_big_skip
            |((with_reducible refine wl ?_);refine ldQ ?_)
            |(with_reducible refine en ?_))
           first|exact HE.out _ hK|(go_ret2;exact HE.out _ hK)
         · have d4:(epoch == 0)=false:=beq_eq_false_iff_ne.2 h4
           have d4':decide (epoch=0)=false:=decide_eq_false h4
           have d5:(num !=0)=true:=bne_iff_ne.2 (by rcases h3 with h|h|h;exact absurd h h4;cases h;exact h)
           clear h3 h4
           go_enter Tryz.func66,Tryz.ntmps66
           go_wp2_with (first
            |go_big_skip
            |go_big_skip
            |((with_reducible refine wl ?_);refine ldQ ?_)
            |(with_reducible refine en ?_))
           first|exact HE.out _ hK|(go_ret2;exact HE.out _ hK)
       · simp only [underV,underRes] at hK HE
         clear h3
         by_cases h4:epoch=0
         · have d4:(epoch == 0)=true:=beq_iff_eq.2 h4
           have d4':decide (epoch=0)=true:=decide_eq_true h4
           clear h4
           go_enter Tryz.func66,Tryz.ntmps66
           go_wp2_with (first
            |go_big_skip
            |go_big_skip
            |((with_reducible refine wl ?_);refine ldQ ?_)
            |(with_reducible refine en ?_))
           first|exact HE.out _ hK|(go_ret2;exact HE.out _ hK)
         · have d4:(epoch == 0)=false:=beq_eq_false_iff_ne.2 h4
           have d4':decide (epoch=0)=false:=decide_eq_false h4
           clear h4
           go_enter Tryz.func66,Tryz.ntmps66
           go_wp2_with (first
            |go_big_skip
            |go_big_skip
            |((with_reducible refine wl ?_);refine ldQ ?_)
            |(with_reducible refine en ?_))
           first|exact HE.out _ hK|(go_ret2;exact HE.out _ hK)
     · rw [if_neg h3] at hv
       subst hv
       obtain ⟨h4,h5,h6⟩:r.epoch≠0/\r.under=none/\r.num=0:=⟨fun e=>h3 (.inl e),by cases hu:r.under with|none=>rfl|some u=>exact absurd (.inr (.inl (by rw [hu];rfl))) h3,by
        by_cases e:r.num=0
        · exact e
        · exact absurd (.inr (.inr e)) h3⟩
       obtain ⟨gp,kp,up,hK⟩:=Know.rob h
       clear h hok h3
       obtain ⟨T,hT⟩: ∃ T,r.tell i=T:=⟨_,rfl⟩
       have kT:=Lib.hid (fun (W:World) (h:Has W (rROB c i p r))=>rb_tell h)
       rw [hT] at kT ⊢
       have HR:=Lib.hid (fun (W:World) (hK:Know w W S (rRb c i p gp kp up r) [stepsR])=>Know.robHas hK)
       have HE:=Lib.hid (fun (W:World) (X:Res) (hK:Know w W S (X::rRb c i p gp kp up r) [stepsR])=>Know.robAll hK)
       generalize hZ:rROB c i p r=Z at kT HR HE
       have HZ:=Lib.hid hZ
       obtain ⟨pose,load,epoch,num,under,stopping,delay⟩:=r
       simp only at h4 h5 h6 d1
       subst h5 h6
       simp only [rRb,rbCells,underV,underRes] at hK HR HE
       have d4:(epoch == 0)=false:=beq_eq_false_iff_ne.2 h4
       have d4':decide (epoch=0)=false:=decide_eq_false h4
       clear h4 hT hZ
       go_enter Tryz.func66,Tryz.ntmps66
       go_wp2_with (first
        |(go_at_call 41;(refine (kT.out _ (HR.out _ hK)).mono ?_;rintro en w' ⟨ad,rfl,hT⟩;replace hK:=hK.push1 hT;clear hT))
        |go_big_skip
        |go_big_skip
        |((with_reducible refine wl ?_);refine ldQ ?_)
        |(with_reducible refine en ?_))
       go_ret2
       refine ⟨ad,1,rfl,?_⟩
       have:=(HE.out _ _ hK).turns
       rw [<-HZ.out] at this
       exact this
end Go.Proofs.YtngeeilkpnihmaaGreatDoor
namespace Go.Proofs.YtngeeilkpnihmaaGreatDoor
open Go Go.Sk Go.RowKit
set_option maxRecDepth 100000
def moveL (m:Go.Sk.Move):List Value:=[.int .i64 m.kind,.int .i64 m.dir,.int .i64 m.n,.int .i64 m.src.at_.x,.int .i64 m.src.at_.y,.bool m.src.down,.int .i64 m.dst.at_.x,.int .i64 m.dst.at_.y,.bool m.dst.down,.int .i64 m.at_,.int .i64 m.fin]
set_option maxHeartbeats 2000000 in
theorem rb_goes {c:ConfP} {i:Int} {t:Tele} {p:Nat} {r:RM} {n:Int} {w:World} {S:Nat->Prop} {v:RM×List Tele×Int} (hok:RMOk c r n) (hn:n<=1000000000) (hmn:t.move.n<=9223372036854775807) (hv:r.goes c i t=v) (h:Know w w S [rROB c i p r] [stepsR]):
 Calls Tryz.prog 65 #[.pointer (some ⟨p,0,none⟩),.agg t.cells.toArray] w (hearEnd c i p v w S):=by
 unfold RM.goes at hv
 by_cases h1:t.epoch<r.epoch
 · rw [if_pos h1] at hv
   subst hv
   refine (rb_goes_old (h.own (r:=rROB c i p r)) h1).mono ?_
   rintro en w' ⟨rfl,hM⟩
   refine ⟨none,0,rfl,?_⟩
   exact ((h.same hM).nil 58 elTele).turns
 · rw [if_neg h1] at hv
   have d1:decide (t.epoch<r.epoch)=false:=decide_eq_false h1
   obtain ⟨gp,kp,up,hK⟩:=Know.rob h
   have hnum:=hok.num
   have hpw:=hok.pose
   by_cases h2:r.epoch<t.epoch\/r.under.isSome=true
   · rw [if_pos h2] at hv
     subst hv
     have HE:=Lib.hid (fun (W:World) (X:Res) (hK:Know w W S (X::rRb c i p gp kp up r) [stepsR])=>hearEnd_nil (how:=0) (gp:=gp) (kp:=kp) (up:=up) (hK.sub (.cons _ (List.Sublist.refl _))))
     generalize hearEnd c i p (r,[],0) w S=X at HE ⊢
     clear h hok
     obtain ⟨pose,load,epoch,num,under,stopping,delay⟩:=r
     simp only [rRb,rbCells] at hK HE
     simp only at h1 h2 d1
     by_cases h3:epoch<t.epoch
     · have d2:decide (epoch<t.epoch)=true:=decide_eq_true h3
       clear h1 h2 h3
       go_enter Tryz.func65,Tryz.ntmps65
       go_wp2_with (first
        |((with_reducible refine wb 3 ?_)
          (refine wl_boxK hK rfl rfl rfl rfl ?_;clear hK;intro w3 b3 hK))
        |((with_reducible refine tx 1 hK ?_);clear hK;intro w' hK)
        |((with_reducible refine tx 3 hK ?_);clear hK;intro w' hK)
        |go_big_skip
        |go_big_skip
        |((with_reducible refine wl ?_);refine ldQ ?_)
        |(with_reducible refine en ?_))
       first|exact HE.out _ _ hK|(go_ret2;exact HE.out _ _ hK)
     · have d2:decide (epoch<t.epoch)=false:=decide_eq_false h3
       rcases under with _|u
       · exact absurd (h2.resolve_left h3) (by simp)
       · simp only [underV,underRes] at hK HE
         clear h1 h2 h3
         go_enter Tryz.func65,Tryz.ntmps65
         go_wp2_with (first
          |((with_reducible refine wb 3 ?_)
            (refine wl_boxK hK rfl rfl rfl rfl ?_;clear hK;intro w3 b3 hK))
          |((with_reducible refine tx 1 hK ?_);clear hK;intro w' hK)
          |((with_reducible refine tx 3 hK ?_);clear hK;intro w' hK)
          |go_big_skip
          |go_big_skip
          |((with_reducible refine wl ?_);refine ldQ ?_)
          |(with_reducible refine en ?_))
         first|exact HE.out _ _ hK|(go_ret2;exact HE.out _ _ hK)
   · rw [if_neg h2] at hv
     obtain ⟨h3,hu⟩: ¬ r.epoch<t.epoch/\r.under=none:=⟨fun e=>h2 (.inl e),by cases hu:r.under with|none=>rfl|some u=>exact absurd (.inr (by rw [hu];rfl)) h2⟩
     have d2:decide (r.epoch<t.epoch)=false:=decide_eq_false h3
     clear h1 h2 h3
     by_cases h4:0<r.num/\t.num=r.num
     · rw [if_pos h4] at hv
       subst hv
       obtain ⟨h4,h5⟩:=h4
       have d4:decide (0<r.num)=true:=decide_eq_true h4
       have d5:(t.num == r.num)=true:=beq_iff_eq.2 h5
       have d5':decide (t.num=r.num)=true:=decide_eq_true h5
       have kT:=Lib.hid (fun (W:World) (h:Has W (rROB c i p r))=>rb_tell h)
       have HR:=Lib.hid (fun (W:World) (X:Res) (hK:Know w W S (X::rRb c i p gp kp up r) [stepsR])=>Know.robHas (hK.sub (.cons _ (List.Sublist.refl _))))
       have HE:=Lib.hid (fun (W:World) (ad:Option Addr) (X:Res) (hK:Know w W S (rOw 58 elTele (.slice ad 1 1) [r.tell i]::X::rRb c i p gp kp up r) [stepsR])=>show hearEnd c i p (r,[r.tell i],0) w S (.returned (.tuple #[.slice ad 1 1,.int .i64 0])) W from ⟨ad,1,rfl,(Know.robAll (hK.sub (.cons_cons _ (.cons _ (List.Sublist.refl _))))).turns⟩)
       generalize hearEnd c i p (r,[r.tell i],0) w S=X at HE ⊢
       generalize r.tell i=T at kT HE
       generalize rROB c i p r=Z at kT HR
       clear h hok
       obtain ⟨pose,load,epoch,num,under,stopping,delay⟩:=r
       simp only at hu d1 d2 d4 d5 d5' h5
       subst hu
       simp only [rRb,rbCells,underV,underRes] at hK HE HR
       clear h4 h5
       go_enter Tryz.func65,Tryz.ntmps65
       go_wp2_with (first
        |((with_reducible refine wb 3 ?_)
          (refine wl_boxK hK rfl rfl rfl rfl ?_;clear hK;intro w3 b3 hK))
        |((with_reducible refine tx 1 hK ?_);clear hK;intro w' hK)
        |((with_reducible refine tx 3 hK ?_);clear hK;intro w' hK)
        |((with_reducible refine tx 5 hK ?_);clear hK;intro w' hK)
        |(go_at_call 41;(refine (kT.out _ (HR.out _ _ hK)).mono ?_;rintro en w' ⟨ad,rfl,hT⟩;replace hK:=hK.push1 hT;clear hT))
        |go_big_skip
        |go_big_skip
        |((with_reducible refine wl ?_);refine ldQ ?_)
        |(with_reducible refine en ?_))
       first|exact HE.out _ _ _ hK|(go_ret2;exact HE.out _ _ _ hK)
     · rw [if_neg h4] at hv
       obtain ⟨lt,hlt⟩: ∃ lt,lessP t.move.fin t.move.at_=lt:=⟨_,rfl⟩
       have kL:=Lib.hid (fun (W:World)=>t_less (a:=t.move.fin) (b:=t.move.at_) (w:=W))
       rw [hlt] at kL hv
       have hsrc:t.move.src=r.pose->PoseWf t.move.src:=fun e=>by rw [e];exact wfp hpw
       by_cases h5:t.num=r.num+1/\t.move.src=r.pose/\legalP c t.move=true/\t.move.at_<t.move.fin/\lt≠0
       · rw [if_pos h5] at hv
         obtain ⟨a1,a2,a3,a4,a5⟩:=h5
         subst hv
         have kG:=Lib.hid (fun (W:World) (h1:Has W (rGRID c gp)) (h2:Has W stepsR)=>g_legal h1 h2 (hsrc a2) hmn)
         rw [a3] at kG
         have HE:=Lib.hid (fun (W:World) (b:Nat) (X:Res) (hK:Know w W S (rBlk b (goCells ⟨t.move,0,lt,false⟩) 132::X::rBlk p (rbCells i gp kp b {r with under:=some ⟨t.move,0,lt,false⟩}) 120::rGRID c gp::rKIN (kinOf c) kp::[]) [stepsR])=>show hearEnd c i p ({r with under:=some ⟨t.move,0,lt,false⟩},[],1) w S (.returned (.tuple #[.slice none 0 0,.int .i64 1])) W from
          hearEnd_nil (gp:=gp) (kp:=kp) (up:=b) (show Know w W S (rBlk p (rbCells i gp kp b {r with under:=some ⟨t.move,0,lt,false⟩}) 120::rGRID c gp::rKIN (kinOf c) kp::rBlk b (goCells ⟨t.move,0,lt,false⟩) 132::[]) [stepsR] from (hK.order [2,3,4,0,1]).sub (.cons_cons _ (.cons_cons _ (.cons_cons _ (.cons_cons _ (.cons _ .slnil)))))))
         generalize hearEnd c i p ({r with under:=some ⟨t.move,0,lt,false⟩},[],1) w S=X at HE ⊢
         clear h hok
         obtain ⟨pose,load,epoch,num,under,stopping,delay⟩:=r
         simp only at hu d1 d2 h4 hsrc hnum hpw a1 a2
         subst hu
         simp only [rRb,rbCells,underV,underRes] at hK HE
         obtain ⟨hnum0,hnum1⟩:=hnum
         have e1:(t.num !=num+1)=false:=by simp [a1]
         have HQ:=Lib.hid (show (!decide (t.move.src=pose))=false by rw [decide_eq_true a2];rfl)
         have e4:decide (t.move.fin<=t.move.at_)=false:=decide_eq_false (by omega)
         have e5:(lt == 0)=false:=beq_eq_false_iff_ne.2 a5
         have e5':decide (lt=0)=false:=decide_eq_false a5
         clear hlt a1 a2 a3 a4 a5 hsrc
         by_cases hp:0<num
         · have d4:decide (0<num)=true:=decide_eq_true hp
           have d5:(t.num == num)=false:=beq_eq_false_iff_ne.2 (fun e=>h4 ⟨hp,e⟩)
           have d5':decide (t.num=num)=false:=decide_eq_false (fun e=>h4 ⟨hp,e⟩)
           clear h4 hp
           go_enter Tryz.func65,Tryz.ntmps65
           go_wp2_with (first
           |((with_reducible refine wb 3 ?_)
             (refine wl_boxK hK rfl rfl rfl rfl ?_;clear hK;intro w3 b3 hK))
           |((with_reducible refine tx 1 hK ?_);clear hK;intro w' hK)
           |((with_reducible refine tx 3 hK ?_);clear hK;intro w' hK)
           |((with_reducible refine tx 5 hK ?_);clear hK;intro w' hK)
           |((with_reducible refine tx 8 hK ?_);clear hK;intro w' hK)
           |(go_at_call 89;(refine (hK.quiet (kL.out _)).mono ?_;clear hK;rintro e w' ⟨rfl,hK⟩))
           |((with_reducible refine ws 65 ?_);(refine wl_loadPK (Pose.cells t.move.src) hK rfl rfl rfl (aggT (by decide)) (h:=?_)))
           |((with_reducible refine ws 69 ?_);(refine wl_loadPK (Pose.cells pose) hK rfl rfl rfl (aggT (by decide)) (h:=?_)))
           |((with_reducible refine wt 70 ?_);(refine wl_neqP t.move.src pose poseEq rfl rfl rfl rfl ?_;rw [HQ.out]))
           |((with_reducible refine ws 78 ?_);(refine wl_loadPK (Go.Sk.Move.cells t.move) hK rfl rfl rfl (aggT (by decide)) (h:=?_)))
           |(go_at_call 90;(refine (hK.quiet (kG.out _ hK.own hK.lent)).mono ?_;clear hK;rintro e w' ⟨rfl,hK⟩))
           |((with_reducible refine ws 97 ?_);(refine wl_loadPK (moveL t.move) hK rfl rfl rfl (aggT (by decide)) (h:=?_)))
           |((with_reducible refine wl_at (o:=⟨some 99,.build _ _,_,_,_,_⟩) ?_);(refine wl_pure (v:=.agg (goCells ⟨t.move,0,lt,false⟩).toArray) rfl (fun W=>by kernel_rfl) ?_))
           |((with_reducible refine wb 100 ?_)
             (refine wl_boxK (zs:=goCells ⟨t.move,0,lt,false⟩) hK rfl rfl rfl (by kernel_rfl) ?_;clear hK;intro w100 b100 hK))
           |((with_reducible refine wl_at (o:=⟨none,.store 118 _ _,_,_,_,_⟩) ?_);(refine wl_storeK (v:=.pointer (some ⟨b100,0,none⟩)) hK rfl rfl rfl rfl (sizT (by decide)) rfl (hk:=by simp) (h:=?_);clear hK;intro w' hK;simp only [z0,z1] at hK))
           |go_big_skip
           |go_big_skip
           |((with_reducible refine wl ?_);refine ldQ ?_)
           |(with_reducible refine en ?_))
           first|exact HE.out _ _ _ hK|(go_ret2;exact HE.out _ _ _ hK)
         · obtain rfl:num=0:=by omega
           replace e1:(t.num !=1)=_:=e1
           clear h4 hp
           go_enter Tryz.func65,Tryz.ntmps65
           go_wp2_with (first
           |((with_reducible refine wb 3 ?_)
             (refine wl_boxK hK rfl rfl rfl rfl ?_;clear hK;intro w3 b3 hK))
           |((with_reducible refine tx 1 hK ?_);clear hK;intro w' hK)
           |((with_reducible refine tx 3 hK ?_);clear hK;intro w' hK)
           |((with_reducible refine tx 5 hK ?_);clear hK;intro w' hK)
           |((with_reducible refine tx 8 hK ?_);clear hK;intro w' hK)
           |(go_at_call 89;(refine (hK.quiet (kL.out _)).mono ?_;clear hK;rintro e w' ⟨rfl,hK⟩))
           |((with_reducible refine ws 65 ?_);(refine wl_loadPK (Pose.cells t.move.src) hK rfl rfl rfl (aggT (by decide)) (h:=?_)))
           |((with_reducible refine ws 69 ?_);(refine wl_loadPK (Pose.cells pose) hK rfl rfl rfl (aggT (by decide)) (h:=?_)))
           |((with_reducible refine wt 70 ?_);(refine wl_neqP t.move.src pose poseEq rfl rfl rfl rfl ?_;rw [HQ.out]))
           |((with_reducible refine ws 78 ?_);(refine wl_loadPK (Go.Sk.Move.cells t.move) hK rfl rfl rfl (aggT (by decide)) (h:=?_)))
           |(go_at_call 90;(refine (hK.quiet (kG.out _ hK.own hK.lent)).mono ?_;clear hK;rintro e w' ⟨rfl,hK⟩))
           |((with_reducible refine ws 97 ?_);(refine wl_loadPK (moveL t.move) hK rfl rfl rfl (aggT (by decide)) (h:=?_)))
           |((with_reducible refine wl_at (o:=⟨some 99,.build _ _,_,_,_,_⟩) ?_);(refine wl_pure (v:=.agg (goCells ⟨t.move,0,lt,false⟩).toArray) rfl (fun W=>by kernel_rfl) ?_))
           |((with_reducible refine wb 100 ?_)
             (refine wl_boxK (zs:=goCells ⟨t.move,0,lt,false⟩) hK rfl rfl rfl (by kernel_rfl) ?_;clear hK;intro w100 b100 hK))
           |((with_reducible refine wl_at (o:=⟨none,.store 118 _ _,_,_,_,_⟩) ?_);(refine wl_storeK (v:=.pointer (some ⟨b100,0,none⟩)) hK rfl rfl rfl rfl (sizT (by decide)) rfl (hk:=by simp) (h:=?_);clear hK;intro w' hK;simp only [z0,z1] at hK))
           |go_big_skip
           |go_big_skip
           |((with_reducible refine wl ?_);refine ldQ ?_)
           |(with_reducible refine en ?_))
           first|exact HE.out _ _ _ hK|(go_ret2;exact HE.out _ _ _ hK)
       · rw [if_neg h5] at hv
         subst hv
         have HE:=Lib.hid (fun (W:World) (X:Res) (hK:Know w W S (X::rRb c i p gp kp up r) [stepsR])=>hearEnd_nil (how:=0) (gp:=gp) (kp:=kp) (up:=up) (hK.sub (.cons _ (List.Sublist.refl _))))
         generalize hearEnd c i p (r,[],0) w S=X at HE ⊢
         clear h hok
         obtain ⟨pose,load,epoch,num,under,stopping,delay⟩:=r
         simp only at hu d1 d2 h4 h5 hsrc hnum hpw
         subst hu
         simp only [rRb,rbCells,underV,underRes] at hK HE
         obtain ⟨hnum0,hnum1⟩:=hnum
         have hw: ∀ x,num+x=num+x:=fun _=>rfl
         clear hw
         by_cases c1:t.num=num+1
         · have e1:(t.num !=num+1)=false:=by simp [c1]
           by_cases c2:t.move.src=pose
           · have HQ:=Lib.hid (show (!decide (t.move.src=pose))=false by rw [decide_eq_true c2];rfl)
             obtain ⟨lg,hlg⟩: ∃ lg,legalP c t.move=lg:=⟨_,rfl⟩
             have kG:=Lib.hid (fun (W:World) (h1:Has W (rGRID c gp)) (h2:Has W stepsR)=>g_legal h1 h2 (hsrc c2) hmn)
             rw [hlg] at kG h5
             cases lg with
             |false=>
              clear h5 hlg hlt c1 c2 hsrc
              by_cases hp:0<num
              · have d4:decide (0<num)=true:=decide_eq_true hp
                have d5:(t.num == num)=false:=beq_eq_false_iff_ne.2 (fun e=>h4 ⟨hp,e⟩)
                have d5':decide (t.num=num)=false:=decide_eq_false (fun e=>h4 ⟨hp,e⟩)
                clear h4 hp
                go_enter Tryz.func65,Tryz.ntmps65
                go_wp2_with (first
                |((with_reducible refine wb 3 ?_)
                  (refine wl_boxK hK rfl rfl rfl rfl ?_;clear hK;intro w3 b3 hK))
                |((with_reducible refine tx 1 hK ?_);clear hK;intro w' hK)
                |((with_reducible refine tx 3 hK ?_);clear hK;intro w' hK)
                |((with_reducible refine tx 5 hK ?_);clear hK;intro w' hK)
                |((with_reducible refine tx 8 hK ?_);clear hK;intro w' hK)
                |(go_at_call 89;(refine (hK.quiet (kL.out _)).mono ?_;clear hK;rintro e w' ⟨rfl,hK⟩))
                |((with_reducible refine ws 65 ?_);(refine wl_loadPK (Pose.cells t.move.src) hK rfl rfl rfl (aggT (by decide)) (h:=?_)))
                |((with_reducible refine ws 69 ?_);(refine wl_loadPK (Pose.cells pose) hK rfl rfl rfl (aggT (by decide)) (h:=?_)))
                |((with_reducible refine wt 70 ?_);(refine wl_neqP t.move.src pose poseEq rfl rfl rfl rfl ?_;rw [HQ.out]))
                |((with_reducible refine ws 78 ?_);(refine wl_loadPK (Go.Sk.Move.cells t.move) hK rfl rfl rfl (aggT (by decide)) (h:=?_)))
                |(go_at_call 90;(refine (hK.quiet (kG.out _ hK.own hK.lent)).mono ?_;clear hK;rintro e w' ⟨rfl,hK⟩))
                |go_big_skip
                |go_big_skip
                |((with_reducible refine wl ?_);refine ldQ ?_)
                |(with_reducible refine en ?_))
                first|exact HE.out _ _ hK|(go_ret2;exact HE.out _ _ hK)
              · obtain rfl:num=0:=by omega
                replace e1:(t.num !=1)=_:=e1
                clear h4 hp
                go_enter Tryz.func65,Tryz.ntmps65
                go_wp2_with (first
                |((with_reducible refine wb 3 ?_)
                  (refine wl_boxK hK rfl rfl rfl rfl ?_;clear hK;intro w3 b3 hK))
                |((with_reducible refine tx 1 hK ?_);clear hK;intro w' hK)
                |((with_reducible refine tx 3 hK ?_);clear hK;intro w' hK)
                |((with_reducible refine tx 5 hK ?_);clear hK;intro w' hK)
                |((with_reducible refine tx 8 hK ?_);clear hK;intro w' hK)
                |(go_at_call 89;(refine (hK.quiet (kL.out _)).mono ?_;clear hK;rintro e w' ⟨rfl,hK⟩))
                |((with_reducible refine ws 65 ?_);(refine wl_loadPK (Pose.cells t.move.src) hK rfl rfl rfl (aggT (by decide)) (h:=?_)))
                |((with_reducible refine ws 69 ?_);(refine wl_loadPK (Pose.cells pose) hK rfl rfl rfl (aggT (by decide)) (h:=?_)))
                |((with_reducible refine wt 70 ?_);(refine wl_neqP t.move.src pose poseEq rfl rfl rfl rfl ?_;rw [HQ.out]))
                |((with_reducible refine ws 78 ?_);(refine wl_loadPK (Go.Sk.Move.cells t.move) hK rfl rfl rfl (aggT (by decide)) (h:=?_)))
                |(go_at_call 90;(refine (hK.quiet (kG.out _ hK.own hK.lent)).mono ?_;clear hK;rintro e w' ⟨rfl,hK⟩))
                |go_big_skip
                |go_big_skip
                |((with_reducible refine wl ?_);refine ldQ ?_)
                |(with_reducible refine en ?_))
                first|exact HE.out _ _ hK|(go_ret2;exact HE.out _ _ hK)
             |true=>
              by_cases c4:t.move.at_<t.move.fin
              · have e4:decide (t.move.fin<=t.move.at_)=false:=decide_eq_false (by omega)
                have c5:lt=0:=by
                 by_cases c5:lt=0
                 · exact c5
                 · exact absurd ⟨c1,c2,rfl,c4,c5⟩ h5
                subst c5
                clear h5 hlg hlt c1 c2 c4 hsrc
                by_cases hp:0<num
                · have d4:decide (0<num)=true:=decide_eq_true hp
                  have d5:(t.num == num)=false:=beq_eq_false_iff_ne.2 (fun e=>h4 ⟨hp,e⟩)
                  have d5':decide (t.num=num)=false:=decide_eq_false (fun e=>h4 ⟨hp,e⟩)
                  clear h4 hp
                  go_enter Tryz.func65,Tryz.ntmps65
                  go_wp2_with (first
                  |((with_reducible refine wb 3 ?_)
                    (refine wl_boxK hK rfl rfl rfl rfl ?_;clear hK;intro w3 b3 hK))
                  |((with_reducible refine tx 1 hK ?_);clear hK;intro w' hK)
                  |((with_reducible refine tx 3 hK ?_);clear hK;intro w' hK)
                  |((with_reducible refine tx 5 hK ?_);clear hK;intro w' hK)
                  |((with_reducible refine tx 8 hK ?_);clear hK;intro w' hK)
                  |(go_at_call 89;(refine (hK.quiet (kL.out _)).mono ?_;clear hK;rintro e w' ⟨rfl,hK⟩))
                  |((with_reducible refine ws 65 ?_);(refine wl_loadPK (Pose.cells t.move.src) hK rfl rfl rfl (aggT (by decide)) (h:=?_)))
                  |((with_reducible refine ws 69 ?_);(refine wl_loadPK (Pose.cells pose) hK rfl rfl rfl (aggT (by decide)) (h:=?_)))
                  |((with_reducible refine wt 70 ?_);(refine wl_neqP t.move.src pose poseEq rfl rfl rfl rfl ?_;rw [HQ.out]))
                  |((with_reducible refine ws 78 ?_);(refine wl_loadPK (Go.Sk.Move.cells t.move) hK rfl rfl rfl (aggT (by decide)) (h:=?_)))
                  |(go_at_call 90;(refine (hK.quiet (kG.out _ hK.own hK.lent)).mono ?_;clear hK;rintro e w' ⟨rfl,hK⟩))
                  |go_big_skip
                  |go_big_skip
                  |((with_reducible refine wl ?_);refine ldQ ?_)
                  |(with_reducible refine en ?_))
                  first|exact HE.out _ _ hK|(go_ret2;exact HE.out _ _ hK)
                · obtain rfl:num=0:=by omega
                  replace e1:(t.num !=1)=_:=e1
                  clear h4 hp
                  go_enter Tryz.func65,Tryz.ntmps65
                  go_wp2_with (first
                  |((with_reducible refine wb 3 ?_)
                    (refine wl_boxK hK rfl rfl rfl rfl ?_;clear hK;intro w3 b3 hK))
                  |((with_reducible refine tx 1 hK ?_);clear hK;intro w' hK)
                  |((with_reducible refine tx 3 hK ?_);clear hK;intro w' hK)
                  |((with_reducible refine tx 5 hK ?_);clear hK;intro w' hK)
                  |((with_reducible refine tx 8 hK ?_);clear hK;intro w' hK)
                  |(go_at_call 89;(refine (hK.quiet (kL.out _)).mono ?_;clear hK;rintro e w' ⟨rfl,hK⟩))
                  |((with_reducible refine ws 65 ?_);(refine wl_loadPK (Pose.cells t.move.src) hK rfl rfl rfl (aggT (by decide)) (h:=?_)))
                  |((with_reducible refine ws 69 ?_);(refine wl_loadPK (Pose.cells pose) hK rfl rfl rfl (aggT (by decide)) (h:=?_)))
                  |((with_reducible refine wt 70 ?_);(refine wl_neqP t.move.src pose poseEq rfl rfl rfl rfl ?_;rw [HQ.out]))
                  |((with_reducible refine ws 78 ?_);(refine wl_loadPK (Go.Sk.Move.cells t.move) hK rfl rfl rfl (aggT (by decide)) (h:=?_)))
                  |(go_at_call 90;(refine (hK.quiet (kG.out _ hK.own hK.lent)).mono ?_;clear hK;rintro e w' ⟨rfl,hK⟩))
                  |go_big_skip
                  |go_big_skip
                  |((with_reducible refine wl ?_);refine ldQ ?_)
                  |(with_reducible refine en ?_))
                  first|exact HE.out _ _ hK|(go_ret2;exact HE.out _ _ hK)
              · have e4:decide (t.move.fin<=t.move.at_)=true:=decide_eq_true (by omega)
                clear h5 hlg hlt c1 c2 c4 hsrc
                by_cases hp:0<num
                · have d4:decide (0<num)=true:=decide_eq_true hp
                  have d5:(t.num == num)=false:=beq_eq_false_iff_ne.2 (fun e=>h4 ⟨hp,e⟩)
                  have d5':decide (t.num=num)=false:=decide_eq_false (fun e=>h4 ⟨hp,e⟩)
                  clear h4 hp
                  go_enter Tryz.func65,Tryz.ntmps65
                  go_wp2_with (first
                  |((with_reducible refine wb 3 ?_)
                    (refine wl_boxK hK rfl rfl rfl rfl ?_;clear hK;intro w3 b3 hK))
                  |((with_reducible refine tx 1 hK ?_);clear hK;intro w' hK)
                  |((with_reducible refine tx 3 hK ?_);clear hK;intro w' hK)
                  |((with_reducible refine tx 5 hK ?_);clear hK;intro w' hK)
                  |((with_reducible refine tx 8 hK ?_);clear hK;intro w' hK)
                  |(go_at_call 89;(refine (hK.quiet (kL.out _)).mono ?_;clear hK;rintro e w' ⟨rfl,hK⟩))
                  |((with_reducible refine ws 65 ?_);(refine wl_loadPK (Pose.cells t.move.src) hK rfl rfl rfl (aggT (by decide)) (h:=?_)))
                  |((with_reducible refine ws 69 ?_);(refine wl_loadPK (Pose.cells pose) hK rfl rfl rfl (aggT (by decide)) (h:=?_)))
                  |((with_reducible refine wt 70 ?_);(refine wl_neqP t.move.src pose poseEq rfl rfl rfl rfl ?_;rw [HQ.out]))
                  |((with_reducible refine ws 78 ?_);(refine wl_loadPK (Go.Sk.Move.cells t.move) hK rfl rfl rfl (aggT (by decide)) (h:=?_)))
                  |(go_at_call 90;(refine (hK.quiet (kG.out _ hK.own hK.lent)).mono ?_;clear hK;rintro e w' ⟨rfl,hK⟩))
                  |go_big_skip
                  |go_big_skip
                  |((with_reducible refine wl ?_);refine ldQ ?_)
                  |(with_reducible refine en ?_))
                  first|exact HE.out _ _ hK|(go_ret2;exact HE.out _ _ hK)
                · obtain rfl:num=0:=by omega
                  replace e1:(t.num !=1)=_:=e1
                  clear h4 hp
                  go_enter Tryz.func65,Tryz.ntmps65
                  go_wp2_with (first
                  |((with_reducible refine wb 3 ?_)
                    (refine wl_boxK hK rfl rfl rfl rfl ?_;clear hK;intro w3 b3 hK))
                  |((with_reducible refine tx 1 hK ?_);clear hK;intro w' hK)
                  |((with_reducible refine tx 3 hK ?_);clear hK;intro w' hK)
                  |((with_reducible refine tx 5 hK ?_);clear hK;intro w' hK)
                  |((with_reducible refine tx 8 hK ?_);clear hK;intro w' hK)
                  |(go_at_call 89;(refine (hK.quiet (kL.out _)).mono ?_;clear hK;rintro e w' ⟨rfl,hK⟩))
                  |((with_reducible refine ws 65 ?_);(refine wl_loadPK (Pose.cells t.move.src) hK rfl rfl rfl (aggT (by decide)) (h:=?_)))
                  |((with_reducible refine ws 69 ?_);(refine wl_loadPK (Pose.cells pose) hK rfl rfl rfl (aggT (by decide)) (h:=?_)))
                  |((with_reducible refine wt 70 ?_);(refine wl_neqP t.move.src pose poseEq rfl rfl rfl rfl ?_;rw [HQ.out]))
                  |((with_reducible refine ws 78 ?_);(refine wl_loadPK (Go.Sk.Move.cells t.move) hK rfl rfl rfl (aggT (by decide)) (h:=?_)))
                  |(go_at_call 90;(refine (hK.quiet (kG.out _ hK.own hK.lent)).mono ?_;clear hK;rintro e w' ⟨rfl,hK⟩))
                  |go_big_skip
                  |go_big_skip
                  |((with_reducible refine wl ?_);refine ldQ ?_)
                  |(with_reducible refine en ?_))
                  first|exact HE.out _ _ hK|(go_ret2;exact HE.out _ _ hK)
           · have HQ:=Lib.hid (show (!decide (t.move.src=pose))=true by rw [decide_eq_false c2];rfl)
             clear h5 hlt c1 c2 hsrc
             by_cases hp:0<num
             · have d4:decide (0<num)=true:=decide_eq_true hp
               have d5:(t.num == num)=false:=beq_eq_false_iff_ne.2 (fun e=>h4 ⟨hp,e⟩)
               have d5':decide (t.num=num)=false:=decide_eq_false (fun e=>h4 ⟨hp,e⟩)
               clear h4 hp
               go_enter Tryz.func65,Tryz.ntmps65
               go_wp2_with (first
               |((with_reducible refine wb 3 ?_)
                 (refine wl_boxK hK rfl rfl rfl rfl ?_;clear hK;intro w3 b3 hK))
               |((with_reducible refine tx 1 hK ?_);clear hK;intro w' hK)
               |((with_reducible refine tx 3 hK ?_);clear hK;intro w' hK)
               |((with_reducible refine tx 5 hK ?_);clear hK;intro w' hK)
               |((with_reducible refine tx 8 hK ?_);clear hK;intro w' hK)
               |(go_at_call 89;(refine (hK.quiet (kL.out _)).mono ?_;clear hK;rintro e w' ⟨rfl,hK⟩))
               |((with_reducible refine ws 65 ?_);(refine wl_loadPK (Pose.cells t.move.src) hK rfl rfl rfl (aggT (by decide)) (h:=?_)))
               |((with_reducible refine ws 69 ?_);(refine wl_loadPK (Pose.cells pose) hK rfl rfl rfl (aggT (by decide)) (h:=?_)))
               |((with_reducible refine wt 70 ?_);(refine wl_neqP t.move.src pose poseEq rfl rfl rfl rfl ?_;rw [HQ.out]))
               |((with_reducible refine ws 78 ?_);(refine wl_loadPK (Go.Sk.Move.cells t.move) hK rfl rfl rfl (aggT (by decide)) (h:=?_)))
               |go_big_skip
               |go_big_skip
               |((with_reducible refine wl ?_);refine ldQ ?_)
               |(with_reducible refine en ?_))
               first|exact HE.out _ _ hK|(go_ret2;exact HE.out _ _ hK)
             · obtain rfl:num=0:=by omega
               replace e1:(t.num !=1)=_:=e1
               clear h4 hp
               go_enter Tryz.func65,Tryz.ntmps65
               go_wp2_with (first
               |((with_reducible refine wb 3 ?_)
                 (refine wl_boxK hK rfl rfl rfl rfl ?_;clear hK;intro w3 b3 hK))
               |((with_reducible refine tx 1 hK ?_);clear hK;intro w' hK)
               |((with_reducible refine tx 3 hK ?_);clear hK;intro w' hK)
               |((with_reducible refine tx 5 hK ?_);clear hK;intro w' hK)
               |((with_reducible refine tx 8 hK ?_);clear hK;intro w' hK)
               |(go_at_call 89;(refine (hK.quiet (kL.out _)).mono ?_;clear hK;rintro e w' ⟨rfl,hK⟩))
               |((with_reducible refine ws 65 ?_);(refine wl_loadPK (Pose.cells t.move.src) hK rfl rfl rfl (aggT (by decide)) (h:=?_)))
               |((with_reducible refine ws 69 ?_);(refine wl_loadPK (Pose.cells pose) hK rfl rfl rfl (aggT (by decide)) (h:=?_)))
               |((with_reducible refine wt 70 ?_);(refine wl_neqP t.move.src pose poseEq rfl rfl rfl rfl ?_;rw [HQ.out]))
               |((with_reducible refine ws 78 ?_);(refine wl_loadPK (Go.Sk.Move.cells t.move) hK rfl rfl rfl (aggT (by decide)) (h:=?_)))
               |go_big_skip
               |go_big_skip
               |((with_reducible refine wl ?_);refine ldQ ?_)
               |(with_reducible refine en ?_))
               first|exact HE.out _ _ hK|(go_ret2;exact HE.out _ _ hK)
         · have e1:(t.num !=num+1)=true:=bne_iff_ne.2 c1
           have HQ:=Lib.hid (show (!decide (t.move.src=pose))=!decide (t.move.src=pose) from rfl)
           clear h5 hlt c1 hsrc
           by_cases hp:0<num
           · have d4:decide (0<num)=true:=decide_eq_true hp
             have d5:(t.num == num)=false:=beq_eq_false_iff_ne.2 (fun e=>h4 ⟨hp,e⟩)
             have d5':decide (t.num=num)=false:=decide_eq_false (fun e=>h4 ⟨hp,e⟩)
             clear h4 hp
             go_enter Tryz.func65,Tryz.ntmps65
             go_wp2_with (first
             |((with_reducible refine wb 3 ?_)
               (refine wl_boxK hK rfl rfl rfl rfl ?_;clear hK;intro w3 b3 hK))
             |((with_reducible refine tx 1 hK ?_);clear hK;intro w' hK)
             |((with_reducible refine tx 3 hK ?_);clear hK;intro w' hK)
             |((with_reducible refine tx 5 hK ?_);clear hK;intro w' hK)
             |((with_reducible refine tx 8 hK ?_);clear hK;intro w' hK)
             |(go_at_call 89;(refine (hK.quiet (kL.out _)).mono ?_;clear hK;rintro e w' ⟨rfl,hK⟩))
             |((with_reducible refine ws 65 ?_);(refine wl_loadPK (Pose.cells t.move.src) hK rfl rfl rfl (aggT (by decide)) (h:=?_)))
             |((with_reducible refine ws 69 ?_);(refine wl_loadPK (Pose.cells pose) hK rfl rfl rfl (aggT (by decide)) (h:=?_)))
             |((with_reducible refine wt 70 ?_);(refine wl_neqP t.move.src pose poseEq rfl rfl rfl rfl ?_;rw [HQ.out]))
             |((with_reducible refine ws 78 ?_);(refine wl_loadPK (Go.Sk.Move.cells t.move) hK rfl rfl rfl (aggT (by decide)) (h:=?_)))
             |go_big_skip
             |go_big_skip
             |((with_reducible refine wl ?_);refine ldQ ?_)
             |(with_reducible refine en ?_))
             first|exact HE.out _ _ hK|(go_ret2;exact HE.out _ _ hK)
           · obtain rfl:num=0:=by omega
             replace e1:(t.num !=1)=_:=e1
             clear h4 hp
             go_enter Tryz.func65,Tryz.ntmps65
             go_wp2_with (first
             |((with_reducible refine wb 3 ?_)
               (refine wl_boxK hK rfl rfl rfl rfl ?_;clear hK;intro w3 b3 hK))
             |((with_reducible refine tx 1 hK ?_);clear hK;intro w' hK)
             |((with_reducible refine tx 3 hK ?_);clear hK;intro w' hK)
             |((with_reducible refine tx 5 hK ?_);clear hK;intro w' hK)
             |((with_reducible refine tx 8 hK ?_);clear hK;intro w' hK)
             |(go_at_call 89;(refine (hK.quiet (kL.out _)).mono ?_;clear hK;rintro e w' ⟨rfl,hK⟩))
             |((with_reducible refine ws 65 ?_);(refine wl_loadPK (Pose.cells t.move.src) hK rfl rfl rfl (aggT (by decide)) (h:=?_)))
             |((with_reducible refine ws 69 ?_);(refine wl_loadPK (Pose.cells pose) hK rfl rfl rfl (aggT (by decide)) (h:=?_)))
             |((with_reducible refine wt 70 ?_);(refine wl_neqP t.move.src pose poseEq rfl rfl rfl rfl ?_;rw [HQ.out]))
             |((with_reducible refine ws 78 ?_);(refine wl_loadPK (Go.Sk.Move.cells t.move) hK rfl rfl rfl (aggT (by decide)) (h:=?_)))
             |go_big_skip
             |go_big_skip
             |((with_reducible refine wl ?_);refine ldQ ?_)
             |(with_reducible refine en ?_))
             first|exact HE.out _ _ hK|(go_ret2;exact HE.out _ _ hK)
end Go.Proofs.YtngeeilkpnihmaaGreatDoor
namespace Go.Proofs.YtngeeilkpnihmaaGreatDoor
open Go Go.Sk Go.RowKit
set_option maxRecDepth 100000
theorem rob_end {c:ConfP} {i:Int} {p gp kp up:Nat} {r:RM} {w w':World} {S:Nat->Prop} {L:List Res} (hK:Know w w' S (rRb c i p gp kp up r) L):Turn (rROB c i p r) w w' S:=Turns.rob hK.turns
theorem rob_end1 {c:ConfP} {i:Int} {p gp kp up:Nat} {r:RM} {w w':World} {S:Nat->Prop} {X:Res} {L:List Res} (hK:Know w w' S (X::rRb c i p gp kp up r) L):Turn (rROB c i p r) w w' S:=rob_end (hK.sub (.cons _ (List.Sublist.refl _)))
theorem Know.robP {c:ConfP} {i:Int} {p:Nat} {r:RM} {w:World} {S:Nat->Prop} (h:(rROB c i p r).p w S): ∃ gp kp up,Know w w S (rRb c i p gp kp up r) []:=Know.rob (Know.start1 h (by simp))
set_option maxHeartbeats 4000000 in
theorem rb_hear {c:ConfP} {i:Int} {t:Tele} {p:Nat} {r:RM} {n:Int} {w:World} {S:Nat->Prop} {v:RM×List Tele×Int} (hok:RMOk c r n) (hn:n<=1000000000) (hmn:t.move.n<=9223372036854775807) (hv:r.hear c (kinOf c) i t=v) (h:Know w w S [rROB c i p r] [stepsR]):
 Calls Tryz.prog 36 #[.pointer (some ⟨p,0,none⟩),.agg t.cells.toArray] w (hearEnd c i p v w S):=by
 unfold RM.hear at hv
 have hnone:v=(r,[],0)->(t.robot≠i\/(t.kind≠1/\t.kind≠2))->Calls Tryz.prog 36 #[.pointer (some ⟨p,0,none⟩),.agg t.cells.toArray] w (hearEnd c i p v w S):=by
  rintro rfl h2
  refine (rb_hear_none (h.own (r:=rROB c i p r)) h2).mono ?_
  rintro en w' ⟨rfl,hM⟩
  exact ⟨none,0,rfl,((h.same hM).nil 58 elTele).turns⟩
 by_cases h1:t.robot=i
 · rw [if_neg (fun e=>e h1)] at hv
   have d3:(t.robot !=i)=false:=by simp [h1]
   by_cases h2:t.kind=1
   · rw [if_pos h2] at hv
     have d1:(t.kind == 1)=true:=beq_iff_eq.2 h2
     have d1':decide (t.kind=1)=true:=decide_eq_true h2
     have kG:=Lib.hid (fun (W:World) (S:Nat->Prop) (h:Know W W S [rROB c i p r] [stepsR])=>rb_goes hok hn hmn hv h)
     obtain ⟨gp,kp,up,hK⟩:=Know.rob h
     have HA:=Lib.hid (fun (W:World) (X:Res) (hK:Know w W S (X::rRb c i p gp kp up r) [stepsR])=>Know.robAll hK)
     clear h hnone hv hok h1 h2
     generalize hZ:rROB c i p r=Z at kG HA
     clear hZ
     simp only [rRb,rbCells] at hK HA
     go_enter Tryz.func36,Tryz.ntmps36
     go_wp2_with (first
      |((with_reducible refine wb 3 ?_)
        (refine wl_boxK hK rfl rfl rfl rfl ?_;clear hK;intro w3 b3 hK))
      |((with_reducible refine tx 1 hK ?_);clear hK;intro w' hK)
      |(go_at_call 65
        replace hK:=HA.out _ _ hK
        obtain ⟨S1,hKS,back⟩:=Know.focus (R:=[Z]) (M:=[rBlk b3 t.cells 58]) (hK.pull (.tail .head))
        refine (kG.out _ S1 hKS).mono ?_
        rintro en w' ⟨ad,cap,rfl,hT⟩
        replace hK:=back _ _ hT)
      |go_big_skip
      |go_big_skip
      |((with_reducible refine wl ?_);refine ldQ ?_)
      |(with_reducible refine en ?_))
     go_ret2
     exact ⟨ad,cap,rfl,(hK.sub (.cons_cons _ (.cons_cons _ (.cons _ .slnil)))).turns⟩
   · rw [if_neg h2] at hv
     by_cases h3:t.kind=2
     · rw [if_pos h3] at hv
       have d1:(t.kind == 1)=false:=beq_eq_false_iff_ne.2 h2
       have d1':decide (t.kind=1)=false:=decide_eq_false h2
       have d2:(t.kind == 2)=true:=beq_iff_eq.2 h3
       have d2':decide (t.kind=2)=true:=decide_eq_true h3
       have kG:=Lib.hid (fun (W:World) (S:Nat->Prop) (h:Know W W S [rROB c i p r] [stepsR])=>rb_stops hok hv h)
       obtain ⟨gp,kp,up,hK⟩:=Know.rob h
       have HA:=Lib.hid (fun (W:World) (X:Res) (hK:Know w W S (X::rRb c i p gp kp up r) [stepsR])=>Know.robAll hK)
       clear h hnone hv hok h1 h2 h3
       generalize hZ:rROB c i p r=Z at kG HA
       clear hZ
       simp only [rRb,rbCells] at hK HA
       go_enter Tryz.func36,Tryz.ntmps36
       go_wp2_with (first
        |((with_reducible refine wb 3 ?_)
          (refine wl_boxK hK rfl rfl rfl rfl ?_;clear hK;intro w3 b3 hK))
        |((with_reducible refine tx 1 hK ?_);clear hK;intro w' hK)
        |(go_at_call 66
          replace hK:=HA.out _ _ hK
          obtain ⟨S1,hKS,back⟩:=Know.focus (R:=[Z]) (M:=[rBlk b3 t.cells 58]) (hK.pull (.tail .head))
          refine (kG.out _ S1 hKS).mono ?_
          rintro en w' ⟨ad,cap,rfl,hT⟩
          replace hK:=back _ _ hT)
        |go_big_skip
        |go_big_skip
        |((with_reducible refine wl ?_);refine ldQ ?_)
        |(with_reducible refine en ?_))
       go_ret2
       exact ⟨ad,cap,rfl,(hK.sub (.cons_cons _ (.cons_cons _ (.cons _ .slnil)))).turns⟩
     · rw [if_neg h3] at hv
       exact hnone hv.symm (.inr ⟨h2,h3⟩)
 · rw [if_pos h1] at hv
   exact hnone hv.symm (.inl h1)
theorem rb_carry {c:ConfP} {i b:Int} {p:Nat} {r:RM} {w:World} {S:Nat->Prop} (h:(rROB c i p r).p w S):Calls Tryz.prog 68 #[.pointer (some ⟨p,0,none⟩),.int .i64 b] w fun e w'=>e=.returned (.tuple #[])/\Turn (rROB c i p (r.carry b)) w w' S:=by
 obtain ⟨gp,kp,up,hK⟩:=Know.robP h
 clear h
 have HE:=Lib.hid (fun (W:World) (hK:Know w W S (rRb c i p gp kp up (r.carry b)) [])=>rob_end hK)
 simp only [rRb,rbCells,RM.carry,underV,underRes] at hK HE
 go_enter Tryz.func68,Tryz.ntmps68
 go_wp2_with (first
  |((with_reducible refine wl_at (o:=⟨none,.store 3 _ _,_,_,_,_⟩) ?_);(refine wl_storeK (v:=.int .i64 b) hK rfl rfl rfl rfl (sizT (by decide)) rfl (hk:=by simp) (h:=?_);clear hK;intro w' hK;simp only [z0,z1] at hK))
  |go_big_skip
  |go_big_skip
  |((with_reducible refine wl ?_);refine ldQ ?_)
  |(with_reducible refine en ?_))
 first|(refine bodyPost_ret (results_none rfl _ _ _) rfl ?_)|(refine bodyPost_end (results_none rfl _ _ _) rfl ?_)
 exact ⟨rfl,HE.out _ hK⟩
set_option maxHeartbeats 2000000 in
theorem rb_delay {c:ConfP} {i d:Int} {p:Nat} {r:RM} {n:Int} {w:World} {S:Nat->Prop} (hok:RMOk c r n) (h:(rROB c i p r).p w S):Calls Tryz.prog 31 #[.pointer (some ⟨p,0,none⟩),.int .i64 d] w fun e w'=>e=.returned (.tuple #[])/\Turn (rROB c i p (r.hold d)) w w' S:=by
 obtain ⟨gp,kp,up,hK⟩:=Know.robP h
 clear h
 have hd:=hok.delay
 clear hok
 have HE:=Lib.hid (fun (W:World) (hK:Know w W S (rRb c i p gp kp up (r.hold d)) [])=>rob_end hK)
 obtain ⟨pose,load,epoch,num,under,stopping,delay⟩:=r
 obtain ⟨hd0,hd1⟩:=hd
 simp only at hd0 hd1
 unfold RM.hold at HE ⊢
 cases under with
 |none=>
  simp only [Option.isSome_none,Bool.false_eq_true,false_and,if_false,rRb,rbCells,underV,underRes] at hK HE ⊢
  go_enter Tryz.func31,Tryz.ntmps31
  go_wp2_with (first
   |go_big_skip
   |go_big_skip
   |((with_reducible refine wl ?_);refine ldQ ?_)
   |(with_reducible refine en ?_))
  first|(refine bodyPost_ret (results_none rfl _ _ _) rfl ?_)|(refine bodyPost_end (results_none rfl _ _ _) rfl ?_)
  exact ⟨rfl,HE.out _ hK⟩
 |some u=>
  simp only [Option.isSome_some,true_and] at HE ⊢
  by_cases h0:0<d
  · have d0:decide (d<=0)=false:=decide_eq_false (by omega)
    simp only [h0,if_true,rRb,rbCells,underV,underRes] at hK HE ⊢
    go_enter Tryz.func31,Tryz.ntmps31
    go_wp2_with (first
     |((with_reducible refine wl_at (o:=⟨none,.store 3 _ _,_,_,_,_⟩) ?_);(refine wl_storeK (v:=.int .i64 (min 1000000 (delay+min d 1000000))) hK rfl rfl rfl rfl (sizT (by decide)) rfl (hk:=by simp) (h:=?_);clear hK;intro w' hK;simp only [z0,z1] at hK))
     |((with_reducible refine wl_at (o:=⟨_,.call {callee:=.builtin .min,args:= #[_,_],argTypes:=_},_,_,_,_⟩) ?_);refine wl_min2 rfl rfl rfl rfl ?_)
     |((with_reducible refine wl_at (o:=⟨_,.call {callee:=.builtin .max,args:= #[_,_],argTypes:=_},_,_,_,_⟩) ?_);refine wl_max2 rfl rfl rfl rfl ?_)
     |((with_reducible refine wl_at (o:=⟨_,.call {callee:=.builtin .min,args:= #[_,_,_],argTypes:=_},_,_,_,_⟩) ?_);refine wl_min3 rfl rfl rfl rfl rfl ?_)
     |go_big_skip
     |go_big_skip
     |((with_reducible refine wl ?_);refine ldQ ?_)
     |(with_reducible refine en ?_))
    first|(refine bodyPost_ret (results_none rfl _ _ _) rfl ?_)|(refine bodyPost_end (results_none rfl _ _ _) rfl ?_)
    exact ⟨rfl,HE.out _ hK⟩
  · have d0:decide (d<=0)=true:=decide_eq_true (by omega)
    simp only [h0,if_false,rRb,rbCells,underV,underRes] at hK HE ⊢
    go_enter Tryz.func31,Tryz.ntmps31
    go_wp2_with (first
     |go_big_skip
     |go_big_skip
     |((with_reducible refine wl ?_);refine ldQ ?_)
     |(with_reducible refine en ?_))
    first|(refine bodyPost_ret (results_none rfl _ _ _) rfl ?_)|(refine bodyPost_end (results_none rfl _ _ _) rfl ?_)
    exact ⟨rfl,HE.out _ hK⟩
end Go.Proofs.YtngeeilkpnihmaaGreatDoor
namespace Go.Proofs.YtngeeilkpnihmaaGreatDoor
open Go Go.Sk Go.RowKit
set_option maxRecDepth 100000
set_option maxHeartbeats 4000000 in
theorem rb_tick {c:ConfP} {i:Int} {p:Nat} {r:RM} {n:Int} {w:World} {S:Nat->Prop} {v:RM×Go.Sk.Move×Int} (hok:RMOk c r n) (hn:n<=1000000000) (hv:r.tick=v) (h:(rROB c i p r).p w S):Calls Tryz.prog 39 #[.pointer (some ⟨p,0,none⟩)] w fun e w'=>
 e=.returned (.tuple #[.agg v.2.1.cells.toArray,.int .i64 v.2.2])/\Turn (rROB c i p v.1) w w' S:=by
 cases hu:r.under with
 |none=>
  have hvv:v=(r,mvZ,0):=by rw [<-hv];unfold RM.tick;rw [hu]
  subst hvv
  refine (rb_tick_none (c:=c) (i:=i) ⟨S,h⟩ hu).mono ?_
  rintro e w' ⟨rfl,hM⟩
  exact ⟨rfl,((Know.start1 (L:=[]) h (by simp)).same hM).turn⟩
 |some u=>
  obtain ⟨g0,g1,g2,g3,_⟩:=hok.going u hu
  have hnum:=hok.num
  have hde:=hok.delay
  unfold RM.tick at hv
  rw [hu] at hv
  simp only at hv
  obtain ⟨gp,kp,up,hK⟩:=Know.robP h
  clear h hok
  obtain ⟨pose,load,epoch,num,under,stopping,delay⟩:=r
  simp only at hu hnum hde hv
  subst hu
  obtain ⟨hnum0,hnum1⟩:=hnum
  obtain ⟨hde0,hde1⟩:=hde
  simp only [rRb,rbCells,underV,underRes,goCells] at hK
  by_cases h1:0<delay
  · rw [if_pos h1] at hv
    subst hv
    have HE:=Lib.hid (fun (W:World) (X:Res) (hK:Know w W S (X::rRb c i p gp kp up ⟨pose,load,epoch,num,some u,stopping,delay - 1⟩) [])=>rob_end1 hK)
    simp only [rRb,rbCells,underV,underRes,goCells] at HE
    have d1:decide (0<delay)=true:=decide_eq_true h1
    go_enter Tryz.func39,Tryz.ntmps39
    go_wp2_with (first
     |((with_reducible refine wl_at (o:=⟨some 2,.alloc _,_,_,_,_⟩) ?_)
       (refine wl_allocK (z:=.agg (moveZ).toArray) (zs:=moveZ) hK rfl rfl (by kernel_rfl) rfl ?_;clear hK;intro w2 b2 hK))
     |((with_reducible refine wl_at (o:=⟨none,.store 38 _ _,_,_,_,_⟩) ?_)
       (refine wl_storeWK (vs:=Go.Sk.Move.cells mvZ) hK rfl rfl rfl rfl (aggS (by decide)) (move_one _) (h:=?_);clear hK;intro w' hK;simp only [z0,z1] at hK))
     |((with_reducible refine wl_at (o:=⟨none,.store 3 _ _,_,_,_,_⟩) ?_);(refine wl_storeK (v:=.int .i64 (delay - 1)) hK rfl rfl rfl rfl (sizT (by decide)) rfl (hk:=by simp) (h:=?_);clear hK;intro w' hK;simp only [z0,z1] at hK))
     |go_big_skip
     |go_big_skip
     |((with_reducible refine wl ?_);refine ldQ ?_)
     |(with_reducible refine en ?_))
    exact bodyPost_ret (res_cellS_tmp rfl _ rfl (aggT (by decide)) rfl (hK.blk (b:=b2) (cs:=Go.Sk.Move.cells mvZ)).at0) rfl ⟨rfl,HE.out _ _ hK⟩
  · rw [if_neg h1] at hv
    have d1:decide (0<delay)=false:=decide_eq_false h1
    obtain ⟨⟨mk,md,mn,ms,mt,ma,me⟩,ut,ul,uc⟩:=u
    simp only at g0 g1 g2 g3 hv hK
    by_cases h2:0<ul - 1
    · rw [if_pos h2] at hv
      subst hv
      have HE:=Lib.hid (fun (W:World) (X:Res) (hK:Know w W S (X::rRb c i p gp kp up ⟨pose,load,epoch,num,some ⟨⟨mk,md,mn,ms,mt,ma,me⟩,ut+1,ul - 1,uc⟩,stopping,delay⟩) [])=>rob_end1 hK)
      simp only [rRb,rbCells,underV,underRes,goCells] at HE
      have d2:decide (0<ul - 1)=true:=decide_eq_true h2
      go_enter Tryz.func39,Tryz.ntmps39
      go_wp2_with (first
       |((with_reducible refine wl_at (o:=⟨some 2,.alloc _,_,_,_,_⟩) ?_)
         (refine wl_allocK (z:=.agg (moveZ).toArray) (zs:=moveZ) hK rfl rfl (by kernel_rfl) rfl ?_;clear hK;intro w2 b2 hK))
       |((with_reducible refine wl_at (o:=⟨none,.store 38 _ _,_,_,_,_⟩) ?_)
         (refine wl_storeWK (vs:=Go.Sk.Move.cells mvZ) hK rfl rfl rfl rfl (aggS (by decide)) (move_one _) (h:=?_);clear hK;intro w' hK;simp only [z0,z1] at hK))
       |((with_reducible refine wl_at (o:=⟨none,.store 3 (.tmp 38) _,_,_,_,_⟩) ?_);(refine wl_storeK (v:=.int .i64 (ut+1)) hK rfl rfl rfl rfl (sizT (by decide)) rfl (hk:=by simp) (h:=?_);clear hK;intro w' hK;simp only [z0,z1] at hK))
       |((with_reducible refine wl_at (o:=⟨none,.store 3 (.tmp 45) _,_,_,_,_⟩) ?_);(refine wl_storeK (v:=.int .i64 (ul - 1)) hK rfl rfl rfl rfl (sizT (by decide)) rfl (hk:=by simp) (h:=?_);clear hK;intro w' hK;simp only [z0,z1] at hK))
       |go_big_skip
       |go_big_skip
       |((with_reducible refine wl ?_);refine ldQ ?_)
       |(with_reducible refine en ?_))
      exact bodyPost_ret (res_cellS_tmp rfl _ rfl (aggT (by decide)) rfl (hK.blk (b:=b2) (cs:=Go.Sk.Move.cells mvZ)).at0) rfl ⟨rfl,HE.out _ _ hK⟩
    · rw [if_neg h2] at hv
      have d2:decide (0<ul - 1)=false:=decide_eq_false h2
      have hul:ul=1:=by omega
      subst hul
      cases stopping
      all_goals
       first
       |(rw [if_pos rfl] at hv
         subst hv
         have HE:=Lib.hid (fun (W:World) (X Y:Res) (hK:Know w W S (X::rBlk p (rbCells i gp kp up ⟨mt,load,epoch,num,none,false,0⟩) 120::rGRID c gp::rKIN (kinOf c) kp::Y::[]) [])=>rob_end1 (hK.sub (M':=X::rRb c i p gp kp up ⟨mt,load,epoch,num,none,false,0⟩) (.cons_cons _ (.cons_cons _ (.cons_cons _ (.cons_cons _ (.cons _ .slnil)))))))
         simp only [rRb,rbCells,underV,underRes,goCells] at HE)
       |(rw [if_neg (by decide)] at hv
         subst hv
         have HE:=Lib.hid (fun (W:World) (X Y:Res) (hK:Know w W S (X::rBlk p (rbCells i gp kp up ⟨mt,load,epoch,num+1,none,false,0⟩) 120::rGRID c gp::rKIN (kinOf c) kp::Y::[]) [])=>rob_end1 (hK.sub (M':=X::rRb c i p gp kp up ⟨mt,load,epoch,num+1,none,false,0⟩) (.cons_cons _ (.cons_cons _ (.cons_cons _ (.cons_cons _ (.cons _ .slnil)))))))
         simp only [rRb,rbCells,underV,underRes,goCells] at HE)
       go_enter Tryz.func39,Tryz.ntmps39
       go_wp2_with (first
        |((with_reducible refine wl_at (o:=⟨some 2,.alloc _,_,_,_,_⟩) ?_)
          (refine wl_allocK (z:=.agg (moveZ).toArray) (zs:=moveZ) hK rfl rfl (by kernel_rfl) rfl ?_;clear hK;intro w2 b2 hK))
        |((with_reducible refine wl_at (o:=⟨none,.store 38 _ _,_,_,_,_⟩) ?_)
          (refine wl_storeWK (vs:=Go.Sk.Move.cells ⟨mk,md,mn,ms,mt,ma,me⟩) hK rfl rfl rfl rfl (aggS (by decide)) (move_one _) (h:=?_);clear hK;intro w' hK;simp only [z0,z1] at hK))
        |((with_reducible refine ws 57 ?_);(refine wl_loadPK (Pose.cells mt) hK rfl rfl rfl (aggT (by decide)) (h:=?_)))
        |((with_reducible refine ws 76 ?_);(refine wl_loadPK (Go.Sk.Move.cells ⟨mk,md,mn,ms,mt,ma,me⟩) hK rfl rfl rfl (aggT (by decide)) (h:=?_)))
        |((with_reducible refine ws 87 ?_);(refine wl_loadPK (Go.Sk.Move.cells ⟨mk,md,mn,ms,mt,ma,me⟩) hK rfl rfl rfl (aggT (by decide)) (h:=?_)))
        |((with_reducible refine wl_at (o:=⟨none,.store 3 (.tmp 38) _,_,_,_,_⟩) ?_);(refine wl_storeK (v:=.int .i64 (ut+1)) hK rfl rfl rfl rfl (sizT (by decide)) rfl (hk:=by simp) (h:=?_);clear hK;intro w' hK;simp only [z0,z1] at hK))
        |((with_reducible refine wl_at (o:=⟨none,.store 3 (.tmp 45) _,_,_,_,_⟩) ?_);(refine wl_storeK (v:=.int .i64 0) hK rfl rfl rfl rfl (sizT (by decide)) rfl (hk:=by simp) (h:=?_);clear hK;intro w' hK;simp only [z0,z1] at hK))
        |((with_reducible refine wl_at (o:=⟨none,.store 3 (.tmp 65) _,_,_,_,_⟩) ?_);(refine wl_storeK (v:=.int .i64 0) hK rfl rfl rfl rfl (sizT (by decide)) rfl (hk:=by simp) (h:=?_);clear hK;intro w' hK;simp only [z0,z1] at hK))
        |((with_reducible refine wl_at (o:=⟨none,.store 3 (.tmp 83) _,_,_,_,_⟩) ?_);(refine wl_storeK (v:=.int .i64 (num+1)) hK rfl rfl rfl rfl (sizT (by decide)) rfl (hk:=by simp) (h:=?_);clear hK;intro w' hK;simp only [z0,z1] at hK))
        |((with_reducible refine wl_at (o:=⟨none,.store 4 _ _,_,_,_,_⟩) ?_);(refine wl_storeK (v:=.bool false) hK rfl rfl rfl rfl (sizT (by decide)) rfl (hk:=by simp) (h:=?_);clear hK;intro w' hK;simp only [z0,z1] at hK))
        |((with_reducible refine wl_at (o:=⟨none,.store 118 _ _,_,_,_,_⟩) ?_);(refine wl_storeK (v:=.pointer none) hK rfl rfl rfl rfl (sizT (by decide)) rfl (hk:=by simp) (h:=?_);clear hK;intro w' hK;simp only [z0,z1] at hK))
        |((with_reducible refine wl_at (o:=⟨none,.store 36 _ _,_,_,_,_⟩) ?_)
          (refine wl_storePK (n:=3) (Pose.cells mt) [.int .i64 i,.pointer (some ⟨gp,0,none⟩),.pointer (some ⟨kp,0,none⟩),.int .i64 mt.at_.x,.int .i64 mt.at_.y,.bool mt.down,.int .i64 load,.int .i64 epoch,.int .i64 num,.pointer (some ⟨up,0,none⟩),.bool _,.int .i64 delay] hK rfl rfl rfl rfl (aggS (by decide)) (pose_one _) (hk:=by simp) (hc:=rfl) (h:=?_);clear hK;intro w' hK;simp only [z0,z1] at hK))
        |go_big_skip
        |go_big_skip
        |((with_reducible refine wl ?_);refine ldQ ?_)
        |(with_reducible refine en ?_))
       exact bodyPost_ret (res_cellS_tmp rfl _ rfl (aggT (by decide)) rfl (hK.blk (b:=b2) (cs:=Go.Sk.Move.cells ⟨mk,md,mn,ms,mt,ma,me⟩)).at0) rfl ⟨rfl,HE.out _ _ _ hK⟩
end Go.Proofs.YtngeeilkpnihmaaGreatDoor
namespace Go.Proofs.YtngeeilkpnihmaaGreatDoor
open Go Go.Sk Go.RowKit
set_option maxRecDepth 100000
theorem Know.hears {c:ConfP} {i:Int} {p k:Nat} {r:RM} {v:RM×List Tele×Int} {f:FuncId} {args:Array Value} {w0 w:World} {F:Nat->Prop} {M L:List Res} (h:Know w0 w F M L) (hi:Ix M (rROB c i p r) k) (hs:stepsR∈L)
 (hc: ∀ S,Know w w S [rROB c i p r] [stepsR]->Calls Tryz.prog f args w (hearEnd c i p v w S)):Calls Tryz.prog f args w fun e w'=> ∃ ad cap,e=.returned (.tuple #[.slice ad v.2.1.length cap,.int .i64 v.2.2])/\
   Know w0 w' F (rOw 58 elTele (.slice ad v.2.1.length cap) v.2.1::M.set k (rROB c i p v.1)) L:=by
 obtain ⟨A,B,rfl,hset⟩:=hi.hole
 have h1:Know w0 w F ([rROB c i p r]++(A++B)) L:=h.perm List.perm_middle
 obtain ⟨S1,hKS,back⟩:=Know.focus h1
 refine (hc S1 (hKS.subL (by simpa using hs))).mono ?_
 rintro e w' ⟨ad,cap,rfl,hT⟩
 refine ⟨ad,cap,rfl,?_⟩
 rw [hset]
 exact (back _ _ hT).perm (List.Perm.cons _ (show (rROB c i p v.1::(A++B)).Perm (A++rROB c i p v.1::B) from List.perm_middle.symm))
structure Op18 where
 kind:Int
 n:Int
 t:Tele
end Go.Proofs.YtngeeilkpnihmaaGreatDoor
