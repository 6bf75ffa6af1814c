/- The world: a lift, a drop. -/
import Derived.Test.YtngeeilkpnihmaaGreatDoorWdAZ
import Derived.Test.YtngeeilkpnihmaaGreatDoorRbBZ
set_option linter.all false
namespace Go.Proofs.YtngeeilkpnihmaaGreatDoor
open Go Go.Sk Go.RowKit
set_option maxRecDepth 100000
def rawS (x:Seen):Sight:=⟨x.kind,0,0,x.bin,poseO,x.move⟩
theorem set_same {α:Type} {l:List α} {i:Nat} {x:α} (h:l[i]?=some x):l.set i x=l:=by
 apply List.ext_getElem?
 intro j
 by_cases hj:i=j
 · subst hj
   rw [List.getElem?_set_self (List.getElem?_eq_some_iff.1 h).1,h]
 · rw [List.getElem?_set_ne hj]
theorem g_port {c:ConfP} {p:Nat} {x:Cell} {w:World} (h:Has w (rGRID c p)): ∃ q:Int,(0<=q ↔ 0<=portOf c x)/\ ∀ w,Has w (rGRID c p)->Calls Tryz.prog 71 #[.pointer (some ⟨p,0,none⟩),.agg x.cells.toArray] w (Ret (.int .i64 q) w):=by
 obtain ⟨cap,ad,hm,ha⟩:=Has.grid h
 refine ⟨portG (mkG c p (c.w*c.h).toNat 0 none (kind2 c (homes c))) x,?_,?_⟩
 · rw [port_pos hm (may_A hm) x]
   unfold portOf
   by_cases hx:x∈c.ports
   · rw [if_pos hx];exact ⟨fun _=>Int.natCast_nonneg _,fun _=>hx⟩
   · rw [if_neg hx];exact ⟨fun h=>absurd h hx,fun h=>by omega⟩
 · intro w hw
   obtain ⟨cap,ad,hm,ha⟩:=Has.grid hw
   have:=gr_port (x:=x) ha (mkG_ok (may_laid hm) (may_A hm) (kind2_bd hm.ports8 (homes c)))
   exact this
set_option maxHeartbeats 8000000 in
theorem w_hoists {c:ConfP} {wp i:Nat} {m:WM} {r:RM} {mv:Go.Sk.Move} {v:SM×RM×List Seen} {w:World} {S:Nat->Prop} {L:List Res} (hr:m.rs[i]?=some r) (hrs:m.rs.length<=64) (hv:hoistW c m.s i r mv.kind=v) (h:Know w w S [rWLD c wp m] L):
 Calls Tryz.prog 40 #[.pointer (some ⟨wp,0,none⟩),.int .i64 i,.agg mv.cells.toArray] w fun e w'=> ∃ ad cap,e=.returned (.slice ad v.2.2.length cap)/\Turns [rOw 43 elSight (.slice ad v.2.2.length cap) (v.2.2.map rawS),rWLD c wp {m with s:=v.1,rs:=m.rs.set i v.2.1}] w w' S:=by
 replace h:=h.subL (L':=[]) (by simp)
 obtain ⟨gp,sp,ra,rc,ps,sa,sc,hlen,hK⟩:=Know.openW [] h
 clear h
 have hi:i<m.rs.length:=(List.getElem?_eq_some_iff.1 hr).1
 obtain ⟨p,hp⟩: ∃ p,ps[i]?=some p:=⟨_,List.getElem?_eq_getElem (by rw [hlen];exact hi)⟩
 have HP:=Lib.hid hp
 have hi64:i<=64:=by omega
 have hps:ps.length<=64:=by omega
 have kPo:=Lib.hid (fun (W:World) (h:Has W (rMany (robsW c ps m.rs)))=>rb_pose (Has.robW h hr hp))
 have HSH:=Lib.hid (fun (W:World) (m':WM) (A L:List Res) (hl:m'.rs.length=m.rs.length) (h:Know w W S (A++rWd c wp gp sp ra rc ps sa sc m') L)=>Know.shutW A (by rw [hl];exact hlen) h)
 clear hlen
 have kC:=Lib.hid (fun (W:World) (s':SM) (b:Int) (A L:List Res) (h:Know w W S (A++rWd c wp gp sp ra rc ps sa sc {m with s:=s'}) L)=>turnsW (r':=r.carry b) (f:=68) (args:= #[.pointer (some ⟨p,0,none⟩),.int .i64 b]) h hr hp (fun S hS=>rb_carry hS))
 obtain ⟨x,hx⟩: ∃ x,r.pose.at_=x:=⟨_,rfl⟩
 unfold hoistW at hv
 have hset:=Lib.hid (set_same hr)
 by_cases h3:mv.kind=3
 · rw [if_pos h3] at hv
   have d3:(mv.kind == 3)=true:=beq_iff_eq.2 h3
   have d3':decide (mv.kind=3)=true:=decide_eq_true h3
   have kL:=Lib.hid (fun (W:World) (S:Nat->Prop) (h:(rSTK c sp m.s).p W S)=>k_lift (i:=(i:Int)) (x:=r.pose.at_) h)
   obtain ⟨E,hE⟩: ∃ E,m.s.liftE c i r.pose.at_=E:=⟨_,rfl⟩
   obtain ⟨B,hB⟩: ∃ B,m.s.liftV c i r.pose.at_=B:=⟨_,rfl⟩
   obtain ⟨s',hs'⟩: ∃ s',m.s.lift c i r.pose.at_=s':=⟨_,rfl⟩
   rw [hE,hB,hs'] at hv kL
   have hsE:E≠0->s'=m.s:=fun h=>by rw [<-hs'];unfold SM.lift;rw [if_neg (by rw [hE];exact h)]
   clear h3 hE hB hs' hr hp hx hi
   by_cases h4:E=0
   · rw [if_pos h4] at hv
     subst hv
     subst h4
     have kC1:=Lib.hid (fun (W:World) (A L:List Res) (h:Know w W S (A++rWd c wp gp sp ra rc ps sa sc {m with s:=s'}) L)=>kC.out W s' B A L h)
     clear kC
     simp only [rWd,wdCells,List.nil_append] at hK
     go_enter Tryz.func40,Tryz.ntmps40
     go_wp2_with (first
      |((with_reducible refine wb 5 ?_)
        (refine wl_boxK hK rfl rfl rfl rfl ?_;clear hK;intro w5 b5 hK))
      |((with_reducible refine tx 4 hK ?_);clear hK;intro w' hK)
      |((with_reducible refine tx 10 hK ?_);clear hK;intro w' hK)
      |((with_reducible refine tx 14 hK ?_);clear hK;intro w' hK)
      |((with_reducible refine wt 18 ?_);(refine wl_ixK (i:=i) (u:=p) hK rfl rfl rfl rfl ptrTy.und ptrTy.size (xs:=ps) (hu:=HP) (h:=?_);intro b18 k18 hat18))
      |((with_reducible refine wt 19 ?_);refine wl_loadA0 rfl rfl rfl (scalT (by decide)) (hat:=hat18) (h:=?_))
      |(go_at_call 42;(refine (hK.quiet (kPo.out _ hK.own)).mono ?_;clear hK;rintro e w' ⟨rfl,hK⟩))
      |((with_reducible refine wt 21 ?_);(refine wl_pure (v:=.agg (Cell.cells r.pose.at_).toArray) rfl (fun W=>by kernel_rfl) ?_))
      |((with_reducible refine wl_at (o:=⟨some 7,.alloc _,_,_,_,_⟩) ?_)
        (refine wl_allocK (z:=.agg (Cell.cells ⟨0,0⟩).toArray) (zs:=Cell.cells ⟨0,0⟩) hK rfl rfl (by kernel_rfl) rfl ?_;clear hK;intro w7 b7 hK))
      |((with_reducible refine wl_at (o:=⟨none,.store 34 _ _,_,_,_,_⟩) ?_)
        (refine wl_storeWK (vs:=Cell.cells r.pose.at_) hK rfl rfl rfl rfl (aggS (by decide)) (elCell.one _) (h:=?_);clear hK;intro w' hK;simp only [z0,z1] at hK))
      |((with_reducible refine wt 22 ?_);(refine wl_pure (v:=.agg (Sight.cells ⟨8,0,0,0,poseO,mvZ⟩).toArray) rfl (fun W=>by kernel_rfl) ?_))
      |((with_reducible refine wt 23 ?_);(refine wl_buildK 43 elSight [(⟨8,0,0,0,poseO,mvZ⟩:Sight)] hK rfl rfl (fun W=>by kernel_rfl) rfl (by decide) ?_;clear hK;intro adb w23 hK))
      |(go_at_call 67;(refine (hK.callsI (fun S hS=>kL.out _ _ hS)).mono ?_;clear hK;rintro e w' ⟨rfl,hK⟩;simp only [z0,z1] at hK))
      |(go_at_call 68;(refine (kC1.out _ [rOw 43 elSight (.slice adb 1 1) [(⟨8,0,0,0,poseO,mvZ⟩:Sight)],rBlk b7 (Cell.cells r.pose.at_) 34,rBlk b5 (Go.Sk.Move.cells mv) 38] _ hK).mono ?_;clear hK;rintro e w' ⟨rfl,hK⟩;simp only [rWd,wdCells,List.cons_append,List.nil_append] at hK))
      |((with_reducible refine wt 45 ?_);(refine wl_ixK (i:=i) (u:=p) hK rfl rfl rfl rfl ptrTy.und ptrTy.size (xs:=ps) (hu:=HP) (h:=?_);intro b45 k45 hat45))
      |((with_reducible refine wt 46 ?_);refine wl_loadA0 rfl rfl rfl (scalT (by decide)) (hat:=hat45) (h:=?_))
      |((with_reducible refine wt 50 ?_);(refine wl_pure (v:=.agg (Sight.cells ⟨4,0,0,B,poseO,mvZ⟩).toArray) rfl (fun W=>by kernel_rfl) ?_))
      |((with_reducible refine wt 51 ?_);(refine wl_buildK 43 elSight [(⟨4,0,0,B,poseO,mvZ⟩:Sight)] hK rfl rfl (fun W=>by kernel_rfl) rfl (by decide) ?_;clear hK;intro adl w51 hK))
      |go_big_skip
      |((with_reducible refine wl ?_);refine ldKQ ?_)
      |(with_reducible refine en ?_))
     go_ret
     exact ⟨adl,1,rfl,((HSH.out _ {m with s:=s',rs:=m.rs.set i (r.carry B)} [rOw 43 elSight (.slice adl 1 1) [(⟨4,0,0,B,poseO,mvZ⟩:Sight)],rOw 43 elSight (.slice adb 1 1) [(⟨8,0,0,0,poseO,mvZ⟩:Sight)],rBlk b7 (Cell.cells r.pose.at_) 34,rBlk b5 (Go.Sk.Move.cells mv) 38] _ (by simp) hK).sub (.cons_cons _ (.cons _ (.cons _ (.cons _ (.cons_cons _ .slnil)))))).turns⟩
   · rw [if_neg h4] at hv
     subst hv
     obtain rfl:=hsE h4
     have d4:(E !=0)=true:=by simpa using h4
     have d4':decide (E=0)=false:=decide_eq_false h4
     clear h4
     simp only [rWd,wdCells,List.nil_append] at hK
     go_enter Tryz.func40,Tryz.ntmps40
     go_wp2_with (first
      |((with_reducible refine wb 5 ?_)
        (refine wl_boxK hK rfl rfl rfl rfl ?_;clear hK;intro w5 b5 hK))
      |((with_reducible refine tx 4 hK ?_);clear hK;intro w' hK)
      |((with_reducible refine tx 10 hK ?_);clear hK;intro w' hK)
      |((with_reducible refine tx 14 hK ?_);clear hK;intro w' hK)
      |((with_reducible refine wt 18 ?_);(refine wl_ixK (i:=i) (u:=p) hK rfl rfl rfl rfl ptrTy.und ptrTy.size (xs:=ps) (hu:=HP) (h:=?_);intro b18 k18 hat18))
      |((with_reducible refine wt 19 ?_);refine wl_loadA0 rfl rfl rfl (scalT (by decide)) (hat:=hat18) (h:=?_))
      |(go_at_call 42;(refine (hK.quiet (kPo.out _ hK.own)).mono ?_;clear hK;rintro e w' ⟨rfl,hK⟩))
      |((with_reducible refine wt 21 ?_);(refine wl_pure (v:=.agg (Cell.cells r.pose.at_).toArray) rfl (fun W=>by kernel_rfl) ?_))
      |((with_reducible refine wl_at (o:=⟨some 7,.alloc _,_,_,_,_⟩) ?_)
        (refine wl_allocK (z:=.agg (Cell.cells ⟨0,0⟩).toArray) (zs:=Cell.cells ⟨0,0⟩) hK rfl rfl (by kernel_rfl) rfl ?_;clear hK;intro w7 b7 hK))
      |((with_reducible refine wl_at (o:=⟨none,.store 34 _ _,_,_,_,_⟩) ?_)
        (refine wl_storeWK (vs:=Cell.cells r.pose.at_) hK rfl rfl rfl rfl (aggS (by decide)) (elCell.one _) (h:=?_);clear hK;intro w' hK;simp only [z0,z1] at hK))
      |((with_reducible refine wt 22 ?_);(refine wl_pure (v:=.agg (Sight.cells ⟨8,0,0,0,poseO,mvZ⟩).toArray) rfl (fun W=>by kernel_rfl) ?_))
      |((with_reducible refine wt 23 ?_);(refine wl_buildK 43 elSight [(⟨8,0,0,0,poseO,mvZ⟩:Sight)] hK rfl rfl (fun W=>by kernel_rfl) rfl (by decide) ?_;clear hK;intro adb w23 hK))
      |(go_at_call 67;(refine (hK.callsI (fun S hS=>kL.out _ _ hS)).mono ?_;clear hK;rintro e w' ⟨rfl,hK⟩;simp only [z0,z1] at hK))
      |go_big_skip
      |((with_reducible refine wl ?_);refine ldKQ ?_)
      |(with_reducible refine en ?_))
     go_ret
     refine ⟨adb,1,rfl,?_⟩
     have hT:=((HSH.out _ m [rOw 43 elSight (.slice adb 1 1) [(⟨8,0,0,0,poseO,mvZ⟩:Sight)],rBlk b7 (Cell.cells r.pose.at_) 34,rBlk b5 (Go.Sk.Move.cells mv) 38] _ rfl hK).sub (M':=[rOw 43 elSight (.slice adb 1 1) [(⟨8,0,0,0,poseO,mvZ⟩:Sight)],rWLD c wp m]) (.cons_cons _ (.cons _ (.cons _ (.cons_cons _ .slnil))))).turns
     show Turns [rOw 43 elSight (.slice adb 1 1) [(⟨8,0,0,0,poseO,mvZ⟩:Sight)],rWLD c wp {m with s:=m.s,rs:=m.rs.set i r}] w w' S
     rw [hset.out]
     exact hT
 · rw [if_neg h3] at hv
   have d3:(mv.kind == 3)=false:=beq_eq_false_iff_ne.2 h3
   have d3':decide (mv.kind=3)=false:=decide_eq_false h3
   have kD:=Lib.hid (fun (W:World) (S:Nat->Prop) (h:(rSTK c sp m.s).p W S)=>k_drop (i:=(i:Int)) (x:=r.pose.at_) h)
   have kLd:=Lib.hid (fun (W:World) (h:Has W (rSTK c sp m.s))=>k_load (i:=(i:Int)) h)
   obtain ⟨E,hE⟩: ∃ E,m.s.dropE c i r.pose.at_=E:=⟨_,rfl⟩
   obtain ⟨B,hB⟩: ∃ B,m.s.load i=B:=⟨_,rfl⟩
   obtain ⟨s',hs'⟩: ∃ s',m.s.drop c i r.pose.at_=s':=⟨_,rfl⟩
   rw [hE,hB,hs'] at hv
   rw [hE,hs'] at kD
   rw [hB] at kLd
   have hsE:E≠0->s'=m.s:=fun h=>by rw [<-hs'];unfold SM.drop;rw [if_neg (by rw [hE];exact h)]
   have hK2:=hK
   simp only [rWd,wdCells,List.nil_append] at hK2
   obtain ⟨q,hq,kPt⟩:=g_port (x:=r.pose.at_) (hK2.own (r:=rGRID c gp))
   clear hK2
   replace kPt:=Lib.hid kPt
   clear h3 hE hB hs' hr hp hx hi
   by_cases h4:E=0
   · rw [if_pos h4] at hv
     subst h4
     have kC1:=Lib.hid (fun (W:World) (A L:List Res) (h:Know w W S (A++rWd c wp gp sp ra rc ps sa sc {m with s:=s'}) L)=>kC.out W s' 0 A L h)
     clear kC
     simp only [rWd,wdCells,List.nil_append] at hK
     by_cases h5:0<=portOf c r.pose.at_
     · rw [if_pos h5] at hv
       subst hv
       have d5:decide (0<=q)=true:=decide_eq_true (hq.2 h5)
       have d5':decide (q>=0)=true:=d5
       clear hq h5
       go_enter Tryz.func40,Tryz.ntmps40
       go_wp2_with (first
        |((with_reducible refine wb 5 ?_)
          (refine wl_boxK hK rfl rfl rfl rfl ?_;clear hK;intro w5 b5 hK))
        |((with_reducible refine tx 4 hK ?_);clear hK;intro w' hK)
        |((with_reducible refine tx 10 hK ?_);clear hK;intro w' hK)
        |((with_reducible refine tx 14 hK ?_);clear hK;intro w' hK)
        |((with_reducible refine wt 18 ?_);(refine wl_ixK (i:=i) (u:=p) hK rfl rfl rfl rfl ptrTy.und ptrTy.size (xs:=ps) (hu:=HP) (h:=?_);intro b18 k18 hat18))
        |((with_reducible refine wt 19 ?_);refine wl_loadA0 rfl rfl rfl (scalT (by decide)) (hat:=hat18) (h:=?_))
        |(go_at_call 42;(refine (hK.quiet (kPo.out _ hK.own)).mono ?_;clear hK;rintro e w' ⟨rfl,hK⟩))
        |((with_reducible refine wt 21 ?_);(refine wl_pure (v:=.agg (Cell.cells r.pose.at_).toArray) rfl (fun W=>by kernel_rfl) ?_))
        |((with_reducible refine wl_at (o:=⟨some 7,.alloc _,_,_,_,_⟩) ?_)
          (refine wl_allocK (z:=.agg (Cell.cells ⟨0,0⟩).toArray) (zs:=Cell.cells ⟨0,0⟩) hK rfl rfl (by kernel_rfl) rfl ?_;clear hK;intro w7 b7 hK))
        |((with_reducible refine wl_at (o:=⟨none,.store 34 _ _,_,_,_,_⟩) ?_)
          (refine wl_storeWK (vs:=Cell.cells r.pose.at_) hK rfl rfl rfl rfl (aggS (by decide)) (elCell.one _) (h:=?_);clear hK;intro w' hK;simp only [z0,z1] at hK))
        |((with_reducible refine wt 22 ?_);(refine wl_pure (v:=.agg (Sight.cells ⟨8,0,0,0,poseO,mvZ⟩).toArray) rfl (fun W=>by kernel_rfl) ?_))
        |((with_reducible refine wt 23 ?_);(refine wl_buildK 43 elSight [(⟨8,0,0,0,poseO,mvZ⟩:Sight)] hK rfl rfl (fun W=>by kernel_rfl) rfl (by decide) ?_;clear hK;intro adb w23 hK))
        |(go_at_call 69;(refine (hK.quiet (kLd.out _ hK.own)).mono ?_;clear hK;rintro e w' ⟨rfl,hK⟩))
        |(go_at_call 70;(refine (hK.callsI (fun S hS=>kD.out _ _ hS)).mono ?_;clear hK;rintro e w' ⟨rfl,hK⟩;simp only [z0,z1] at hK))
        |(go_at_call 68;(refine (kC1.out _ [rOw 43 elSight (.slice adb 1 1) [(⟨8,0,0,0,poseO,mvZ⟩:Sight)],rBlk b7 (Cell.cells r.pose.at_) 34,rBlk b5 (Go.Sk.Move.cells mv) 38] _ hK).mono ?_;clear hK;rintro e w' ⟨rfl,hK⟩;simp only [rWd,wdCells,List.cons_append,List.nil_append] at hK))
        |(go_at_call 71;(refine (hK.quiet (kPt.out _ hK.own)).mono ?_;clear hK;rintro e w' ⟨rfl,hK⟩))
        |((with_reducible refine wt 72 ?_);(refine wl_ixK (i:=i) (u:=p) hK rfl rfl rfl rfl ptrTy.und ptrTy.size (xs:=ps) (hu:=HP) (h:=?_);intro b72 k72 hat72))
        |((with_reducible refine wt 73 ?_);refine wl_loadA0 rfl rfl rfl (scalT (by decide)) (hat:=hat72) (h:=?_))
        |((with_reducible refine wt 76 ?_);(refine wl_pure (v:=.agg (Sight.cells ⟨5,0,0,B,poseO,mvZ⟩).toArray) rfl (fun W=>by kernel_rfl) ?_))
        |((with_reducible refine wt 77 ?_);(refine wl_buildK 43 elSight [(⟨5,0,0,B,poseO,mvZ⟩:Sight)] hK rfl rfl (fun W=>by kernel_rfl) rfl (by decide) ?_;clear hK;intro add w77 hK))
        |((with_reducible refine wt 87 ?_);(refine wl_pure (v:=.agg (Sight.cells ⟨6,0,0,B,poseO,mvZ⟩).toArray) rfl (fun W=>by kernel_rfl) ?_))
        |((with_reducible refine wt 88 ?_);(refine wl_buildK 43 elSight [(⟨6,0,0,B,poseO,mvZ⟩:Sight)] hK rfl rfl (fun W=>by kernel_rfl) rfl (by decide) ?_;clear hK;intro adl w88 hK))
        |((with_reducible refine wt 89 ?_)
          (refine wl_appK (xs:=[(⟨5,0,0,B,poseO,mvZ⟩:Sight)]) (ys:=[(⟨6,0,0,B,poseO,mvZ⟩:Sight)]) hK sightTy rfl rfl rfl rfl hK.rd (by simp [maxLen]) (by simp) (h:=?_);clear hK;intro ad2 N2 cap2 w89 hN2 hK;subst hN2;simp only [z0,z1] at hK))
        |go_big_skip
        |((with_reducible refine wl ?_);refine ldKQ ?_)
        |(with_reducible refine en ?_))
       go_ret
       exact ⟨ad2,cap2,rfl,((HSH.out _ {m with s:=s',rs:=m.rs.set i (r.carry 0)} [rOw 43 elSight (.slice adl 1 1) [(⟨6,0,0,B,poseO,mvZ⟩:Sight)],rOw 43 elSight (.slice ad2 2 cap2) [(⟨5,0,0,B,poseO,mvZ⟩:Sight),(⟨6,0,0,B,poseO,mvZ⟩:Sight)],rOw 43 elSight (.slice adb 1 1) [(⟨8,0,0,0,poseO,mvZ⟩:Sight)],rBlk b7 (Cell.cells r.pose.at_) 34,rBlk b5 (Go.Sk.Move.cells mv) 38] _ (by simp) hK).sub (.cons _ (.cons_cons _ (.cons _ (.cons _ (.cons _ (.cons_cons _ .slnil))))))).turns⟩
     · rw [if_neg h5] at hv
       subst hv
       have d5:decide (0<=q)=false:=decide_eq_false (fun h=>h5 (hq.1 h))
       have d5':decide (q>=0)=false:=d5
       clear hq h5
       go_enter Tryz.func40,Tryz.ntmps40
       go_wp2_with (first
        |((with_reducible refine wb 5 ?_)
          (refine wl_boxK hK rfl rfl rfl rfl ?_;clear hK;intro w5 b5 hK))
        |((with_reducible refine tx 4 hK ?_);clear hK;intro w' hK)
        |((with_reducible refine tx 10 hK ?_);clear hK;intro w' hK)
        |((with_reducible refine tx 14 hK ?_);clear hK;intro w' hK)
        |((with_reducible refine wt 18 ?_);(refine wl_ixK (i:=i) (u:=p) hK rfl rfl rfl rfl ptrTy.und ptrTy.size (xs:=ps) (hu:=HP) (h:=?_);intro b18 k18 hat18))
        |((with_reducible refine wt 19 ?_);refine wl_loadA0 rfl rfl rfl (scalT (by decide)) (hat:=hat18) (h:=?_))
        |(go_at_call 42;(refine (hK.quiet (kPo.out _ hK.own)).mono ?_;clear hK;rintro e w' ⟨rfl,hK⟩))
        |((with_reducible refine wt 21 ?_);(refine wl_pure (v:=.agg (Cell.cells r.pose.at_).toArray) rfl (fun W=>by kernel_rfl) ?_))
        |((with_reducible refine wl_at (o:=⟨some 7,.alloc _,_,_,_,_⟩) ?_)
          (refine wl_allocK (z:=.agg (Cell.cells ⟨0,0⟩).toArray) (zs:=Cell.cells ⟨0,0⟩) hK rfl rfl (by kernel_rfl) rfl ?_;clear hK;intro w7 b7 hK))
        |((with_reducible refine wl_at (o:=⟨none,.store 34 _ _,_,_,_,_⟩) ?_)
          (refine wl_storeWK (vs:=Cell.cells r.pose.at_) hK rfl rfl rfl rfl (aggS (by decide)) (elCell.one _) (h:=?_);clear hK;intro w' hK;simp only [z0,z1] at hK))
        |((with_reducible refine wt 22 ?_);(refine wl_pure (v:=.agg (Sight.cells ⟨8,0,0,0,poseO,mvZ⟩).toArray) rfl (fun W=>by kernel_rfl) ?_))
        |((with_reducible refine wt 23 ?_);(refine wl_buildK 43 elSight [(⟨8,0,0,0,poseO,mvZ⟩:Sight)] hK rfl rfl (fun W=>by kernel_rfl) rfl (by decide) ?_;clear hK;intro adb w23 hK))
        |(go_at_call 69;(refine (hK.quiet (kLd.out _ hK.own)).mono ?_;clear hK;rintro e w' ⟨rfl,hK⟩))
        |(go_at_call 70;(refine (hK.callsI (fun S hS=>kD.out _ _ hS)).mono ?_;clear hK;rintro e w' ⟨rfl,hK⟩;simp only [z0,z1] at hK))
        |(go_at_call 68;(refine (kC1.out _ [rOw 43 elSight (.slice adb 1 1) [(⟨8,0,0,0,poseO,mvZ⟩:Sight)],rBlk b7 (Cell.cells r.pose.at_) 34,rBlk b5 (Go.Sk.Move.cells mv) 38] _ hK).mono ?_;clear hK;rintro e w' ⟨rfl,hK⟩;simp only [rWd,wdCells,List.cons_append,List.nil_append] at hK))
        |(go_at_call 71;(refine (hK.quiet (kPt.out _ hK.own)).mono ?_;clear hK;rintro e w' ⟨rfl,hK⟩))
        |((with_reducible refine wt 72 ?_);(refine wl_ixK (i:=i) (u:=p) hK rfl rfl rfl rfl ptrTy.und ptrTy.size (xs:=ps) (hu:=HP) (h:=?_);intro b72 k72 hat72))
        |((with_reducible refine wt 73 ?_);refine wl_loadA0 rfl rfl rfl (scalT (by decide)) (hat:=hat72) (h:=?_))
        |((with_reducible refine wt 76 ?_);(refine wl_pure (v:=.agg (Sight.cells ⟨5,0,0,B,poseO,mvZ⟩).toArray) rfl (fun W=>by kernel_rfl) ?_))
        |((with_reducible refine wt 77 ?_);(refine wl_buildK 43 elSight [(⟨5,0,0,B,poseO,mvZ⟩:Sight)] hK rfl rfl (fun W=>by kernel_rfl) rfl (by decide) ?_;clear hK;intro add w77 hK))
        |go_big_skip
        |((with_reducible refine wl ?_);refine ldKQ ?_)
        |(with_reducible refine en ?_))
       go_ret
       exact ⟨add,1,rfl,((HSH.out _ {m with s:=s',rs:=m.rs.set i (r.carry 0)} [rOw 43 elSight (.slice add 1 1) [(⟨5,0,0,B,poseO,mvZ⟩:Sight)],rOw 43 elSight (.slice adb 1 1) [(⟨8,0,0,0,poseO,mvZ⟩:Sight)],rBlk b7 (Cell.cells r.pose.at_) 34,rBlk b5 (Go.Sk.Move.cells mv) 38] _ (by simp) hK).sub (.cons_cons _ (.cons _ (.cons _ (.cons _ (.cons_cons _ .slnil)))))).turns⟩
   · rw [if_neg h4] at hv
     subst hv
     obtain rfl:=hsE h4
     have d4:(E !=0)=true:=by simpa using h4
     have d4':decide (E=0)=false:=decide_eq_false h4
     clear h4 hq
     simp only [rWd,wdCells,List.nil_append] at hK
     go_enter Tryz.func40,Tryz.ntmps40
     go_wp2_with (first
      |((with_reducible refine wb 5 ?_)
        (refine wl_boxK hK rfl rfl rfl rfl ?_;clear hK;intro w5 b5 hK))
      |((with_reducible refine tx 4 hK ?_);clear hK;intro w' hK)
      |((with_reducible refine tx 10 hK ?_);clear hK;intro w' hK)
      |((with_reducible refine tx 14 hK ?_);clear hK;intro w' hK)
      |((with_reducible refine wt 18 ?_);(refine wl_ixK (i:=i) (u:=p) hK rfl rfl rfl rfl ptrTy.und ptrTy.size (xs:=ps) (hu:=HP) (h:=?_);intro b18 k18 hat18))
      |((with_reducible refine wt 19 ?_);refine wl_loadA0 rfl rfl rfl (scalT (by decide)) (hat:=hat18) (h:=?_))
      |(go_at_call 42;(refine (hK.quiet (kPo.out _ hK.own)).mono ?_;clear hK;rintro e w' ⟨rfl,hK⟩))
      |((with_reducible refine wt 21 ?_);(refine wl_pure (v:=.agg (Cell.cells r.pose.at_).toArray) rfl (fun W=>by kernel_rfl) ?_))
      |((with_reducible refine wl_at (o:=⟨some 7,.alloc _,_,_,_,_⟩) ?_)
        (refine wl_allocK (z:=.agg (Cell.cells ⟨0,0⟩).toArray) (zs:=Cell.cells ⟨0,0⟩) hK rfl rfl (by kernel_rfl) rfl ?_;clear hK;intro w7 b7 hK))
      |((with_reducible refine wl_at (o:=⟨none,.store 34 _ _,_,_,_,_⟩) ?_)
        (refine wl_storeWK (vs:=Cell.cells r.pose.at_) hK rfl rfl rfl rfl (aggS (by decide)) (elCell.one _) (h:=?_);clear hK;intro w' hK;simp only [z0,z1] at hK))
      |((with_reducible refine wt 22 ?_);(refine wl_pure (v:=.agg (Sight.cells ⟨8,0,0,0,poseO,mvZ⟩).toArray) rfl (fun W=>by kernel_rfl) ?_))
      |((with_reducible refine wt 23 ?_);(refine wl_buildK 43 elSight [(⟨8,0,0,0,poseO,mvZ⟩:Sight)] hK rfl rfl (fun W=>by kernel_rfl) rfl (by decide) ?_;clear hK;intro adb w23 hK))
      |(go_at_call 69;(refine (hK.quiet (kLd.out _ hK.own)).mono ?_;clear hK;rintro e w' ⟨rfl,hK⟩))
      |(go_at_call 70;(refine (hK.callsI (fun S hS=>kD.out _ _ hS)).mono ?_;clear hK;rintro e w' ⟨rfl,hK⟩;simp only [z0,z1] at hK))
      |go_big_skip
      |((with_reducible refine wl ?_);refine ldKQ ?_)
      |(with_reducible refine en ?_))
     go_ret
     refine ⟨adb,1,rfl,?_⟩
     have hT:=((HSH.out _ m [rOw 43 elSight (.slice adb 1 1) [(⟨8,0,0,0,poseO,mvZ⟩:Sight)],rBlk b7 (Cell.cells r.pose.at_) 34,rBlk b5 (Go.Sk.Move.cells mv) 38] _ rfl hK).sub (M':=[rOw 43 elSight (.slice adb 1 1) [(⟨8,0,0,0,poseO,mvZ⟩:Sight)],rWLD c wp m]) (.cons_cons _ (.cons _ (.cons _ (.cons_cons _ .slnil))))).turns
     show Turns [rOw 43 elSight (.slice adb 1 1) [(⟨8,0,0,0,poseO,mvZ⟩:Sight)],rWLD c wp {m with s:=m.s,rs:=m.rs.set i r}] w w' S
     rw [hset.out]
     exact hT
end Go.Proofs.YtngeeilkpnihmaaGreatDoor
