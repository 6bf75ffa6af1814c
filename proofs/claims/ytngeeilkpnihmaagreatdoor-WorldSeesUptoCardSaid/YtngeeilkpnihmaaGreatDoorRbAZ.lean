/- Texts of mine that belong together: Rb1, Rb2, Rb3, Rb4, Rb5. -/
import Derived.Test.YtngeeilkpnihmaaGreatDoorGrAZ
import Derived.Test.YtngeeilkpnihmaaGreatDoorSkDZ
import Derived.Test.YtngeeilkpnihmaaGreatDoorStCZ
import Derived.Test.YtngeeilkpnihmaaGreatDoorSkBZ
import Derived.Deep.LoopGhost
import Derived.Test.YtngeeilkpnihmaaGreatDoorComZ
set_option linter.all false
namespace Go.Proofs.YtngeeilkpnihmaaGreatDoor
open Go Go.Sk Go.RowKit
set_option maxRecDepth 100000
@[irreducible] def rGRID (c:ConfP) (p:Nat):Res where
  p w S:= ∃ cap ad,MayP c/\Sep w (rGrid (mkG c p (c.w*c.h).toNat cap ad (kind2 c (homes c)))) S
  loc:=by rintro w w' S ⟨a,b,h1,h2⟩ he;exact ⟨a,b,h1,h2.loc he⟩
  lt:=by rintro w S ⟨_,_,_,h⟩;exact h.lt
theorem rGRID_p {c:ConfP} {p:Nat} {w:World} {S:Nat->Prop}:(rGRID c p).p w S ↔ ∃ cap ad,MayP c/\Sep w (rGrid (mkG c p (c.w*c.h).toNat cap ad (kind2 c (homes c)))) S:=by unfold rGRID;exact Iff.rfl
theorem g_new {c:ConfV} {w:World} (hc:Has w (rConf c)) (hst:Has w stepsR) (hz:Sized c) (hwf: ∀ p∈c.robots.l,PoseWf p):Calls Tryz.prog 32 #[.agg c.cells.toArray] w fun e w'=>
 (¬ MayP c.p/\e=.returned (.tuple #[.pointer none,.int .i64 5])/\Mod none' w w')\/(MayP c.p/\ ∃ p,e=.returned (.tuple #[.pointer (some ⟨p,0,none⟩),.int .i64 0])/\Turn (rGRID c.p p) w w' none'):=by
 refine (gnew_calls hc hst hz hwf).mono ?_
 rintro e w' (⟨h1,rfl,h2⟩|⟨h1,p,cap,ad,rfl,hm,S,h2,h3⟩)
 · exact .inl ⟨h1,rfl,h2⟩
 · exact .inr ⟨h1,p,rfl,hm,S,rGRID_p.2 ⟨cap,ad,h1,h2⟩,h3⟩
structure KRun where
 on:Bool
 pl:Sv Int
def KRun.cells (r:KRun):List Value:=[.int .u32 (if r.on then 1 else 0),.int .i32 0,.int .u32 0,r.pl.val]
def kinCells (k:KinP) (rs:List KRun):List Value:=[.int .i64 k.unit,.int .i64 k.accel,.int .i64 k.speed]++rs.flatMap KRun.cells
def runRes (r:KRun):Res:=rOw 3 elInt r.pl.val r.pl.l
def rKn (k:KinP) (p:Nat) (rs:List KRun):List Res:=[rMany (rs.map runRes),rBlk p (kinCells k rs) 166]
def nilInts:Sv Int:=⟨none,[],0⟩
structure KnOk (k:KinP) (rs:List KRun):Prop where
 ok:k.Ok
 len:rs.length=17
 each: ∀ (j:Nat) (r:KRun),rs[j]?=some r->if r.on then r.pl.l=k.prof j else r.pl=nilInts
@[irreducible] def rKIN (k:KinP) (p:Nat):Res where
  p w S:= ∃ rs,KnOk k rs/\Sep w (rKn k p rs) S
  loc:=by rintro w w' S ⟨a,h1,h2⟩ he;exact ⟨a,h1,h2.loc he⟩
  lt:=by rintro w S ⟨_,_,h⟩;exact h.lt
theorem rKIN_p {k:KinP} {p:Nat} {w:World} {S:Nat->Prop}:(rKIN k p).p w S ↔ ∃ rs,KnOk k rs/\Sep w (rKn k p rs) S:=by unfold rKIN;exact Iff.rfl
def kinZ (k:KinP):List Value:=kinCells k (List.replicate 17 ⟨false,nilInts⟩)
theorem rKIN_new {k:KinP} {p:Nat} {w0 w:World} (hk:k.Ok) (h:Know w0 w none' [rBlk p (kinZ k) 166] []):Turn (rKIN k p) w0 w none':=by
 have h1:=h.pushMany (r:=runRes ⟨false,nilInts⟩) (n:=17) ⟨_,rOw_p.2 ⟨Ow.nil w 3 elInt,rfl⟩,fun b hb=>by cases hb⟩
 obtain ⟨hm,S,h3,h4⟩:=h1.turns
 refine ⟨hm,S,rKIN_p.2 ⟨List.replicate 17 ⟨false,nilInts⟩,⟨hk,by simp,fun j r hr=>?_⟩,?_⟩,h4⟩
 · have:=List.eq_of_mem_replicate (List.mem_of_getElem? hr)
   subst this
   rfl
 · unfold rKn
   rw [List.map_replicate]
   exact h3
set_option maxHeartbeats 1000000 in
theorem kn_new {u a s:Int} {w:World} (hk:(⟨u,a,s⟩:KinP).Ok):Calls Tryz.prog 63 #[.int .i64 u,.int .i64 a,.int .i64 s] w fun e w'=>
 ∃ p,e=.returned (.tuple #[.pointer (some ⟨p,0,none⟩),.int .i64 0])/\Turn (rKIN ⟨u,a,s⟩ p) w w' none':=by
 have hK:Know w w none' [] []:=Know.start (L:=[]) w (by simp)
 have hk1:=hk
 obtain ⟨u1,u2,a1,a2,s1,s2⟩:=hk
 simp only at u1 u2 a1 a2 s1 s2
 have HK:=Lib.hid hk1
 have i0: ∀ W,(Instr.index 149 (Value.agg #[Value.int IntKind.i64 u,Value.int IntKind.i64 a,Value.int IntKind.i64 s]) (Value.int IntKind.i64 0)).run Tryz.prog W=.ok (.int .i64 u) W:=fun W=>by kernel_rfl
 have i1: ∀ W,(Instr.index 149 (Value.agg #[Value.int IntKind.i64 u,Value.int IntKind.i64 a,Value.int IntKind.i64 s]) (Value.int IntKind.i64 1)).run Tryz.prog W=.ok (.int .i64 a) W:=fun W=>by kernel_rfl
 have i2: ∀ W,(Instr.index 149 (Value.agg #[Value.int IntKind.i64 u,Value.int IntKind.i64 a,Value.int IntKind.i64 s]) (Value.int IntKind.i64 2)).run Tryz.prog W=.ok (.int .i64 s) W:=fun W=>by kernel_rfl
 clear hk1
 go_enter Tryz.func63,Tryz.ntmps63
 go_wp2_with (first
  |go_big_skip
  |go_big_skip
  |((with_reducible refine wl ?_);refine ldQ ?_)
  |(with_reducible refine en ?_))
 go_loopg [9,14] 3 (fun k r9 i wr=> ∃ j:Nat,i=.int .i64 j/\k=3 - j/\j<=3/\Know w wr none' [] [])
 case atStart=>exact ⟨0,rfl,by omega,by omega,hK⟩
 case round=>
  clear hK
  obtain ⟨j,rfl,rfl,hj,hK⟩:=hrel
  by_cases h0:j=0
  · subst h0
    go_wp2_with (first
     |go_big_skip
     |go_big_skip
     |((with_reducible refine wl ?_);refine ldQ ?_)
     |(with_reducible refine en ?_))
    go_roundg 2
    case measure=>omega
    case rel=>exact ⟨1,by go_num,rfl,by omega,hK⟩
  · by_cases h1:j=1
    · subst h1
      go_wp2_with (first
       |go_big_skip
       |go_big_skip
       |((with_reducible refine wl ?_);refine ldQ ?_)
       |(with_reducible refine en ?_))
      go_roundg 1
      case measure=>omega
      case rel=>exact ⟨2,by go_num,rfl,by omega,hK⟩
    · by_cases h2:j=2
      · subst h2
        go_wp2_with (first
         |go_big_skip
         |go_big_skip
         |((with_reducible refine wl ?_);refine ldQ ?_)
         |(with_reducible refine en ?_))
        go_roundg 0
        case measure=>omega
        case rel=>exact ⟨3,by go_num,rfl,by omega,hK⟩
      · obtain rfl:j=3:=by omega
        go_wp2_with (first
         |((with_reducible refine wb 28 ?_)
           (refine wl_boxK (zs:=kinZ ⟨u,a,s⟩) hK rfl rfl rfl (by kernel_rfl) ?_;clear hK;intro w28 b28 hK))
         |go_big_skip
         |go_big_skip
         |((with_reducible refine wl ?_);refine ldQ ?_)
         |(with_reducible refine en ?_))
        go_ret2
        exact ⟨b28,rfl,rKIN_new HK.out hK⟩
end Go.Proofs.YtngeeilkpnihmaaGreatDoor
namespace Go.Proofs.YtngeeilkpnihmaaGreatDoor
open Go Go.Sk Go.RowKit
set_option maxRecDepth 100000
def kinOf (c:ConfP):KinP:=⟨c.unit,c.accel,c.speed⟩
theorem kinOf_ok {c:ConfP} (h:MayP c):(kinOf c).Ok:=by
 have hn:=nums_iff.1 h.nums
 exact ⟨hn.unit.1,hn.unit.2,hn.accel.1,hn.accel.2,hn.speed.1,hn.speed.2⟩
def underV (up:Nat) (r:RM):Value:=match r.under with
 |none=>.pointer none
 |some _=>.pointer (some ⟨up,0,none⟩)
def rbCells (i:Int) (gp kp up:Nat) (r:RM):List Value:=[.int .i64 i,.pointer (some ⟨gp,0,none⟩),.pointer (some ⟨kp,0,none⟩),.int .i64 r.pose.at_.x,.int .i64 r.pose.at_.y,.bool r.pose.down,.int .i64 r.load,.int .i64 r.epoch,.int .i64 r.num,underV up r,.bool r.stopping,.int .i64 r.delay]
def goCells (u:Going):List Value:=[.int .i64 u.move.kind,.int .i64 u.move.dir,.int .i64 u.move.n,.int .i64 u.move.src.at_.x,.int .i64 u.move.src.at_.y,.bool u.move.src.down,.int .i64 u.move.dst.at_.x,.int .i64 u.move.dst.at_.y,.bool u.move.dst.down,.int .i64 u.move.at_,.int .i64 u.move.fin,.int .i64 u.t,.int .i64 u.left,.bool u.cut]
def underRes (up:Nat) (r:RM):List Res:=match r.under with
 |none=>[]
 |some u=>[rBlk up (goCells u) 132]
def rRb (c:ConfP) (i:Int) (p gp kp up:Nat) (r:RM):List Res:=rBlk p (rbCells i gp kp up r) 120::rGRID c gp::rKIN (kinOf c) kp::underRes up r
@[irreducible] def rROB (c:ConfP) (i:Int) (p:Nat) (r:RM):Res where
  p w S:= ∃ gp kp up,Sep w (rRb c i p gp kp up r) S
  loc:=by rintro w w' S ⟨x,y,z,h5⟩ he;exact ⟨x,y,z,h5.loc he⟩
  lt:=by rintro w S ⟨_,_,_,h⟩;exact h.lt
theorem rROB_p {c:ConfP} {i:Int} {p:Nat} {r:RM} {w:World} {S:Nat->Prop}:(rROB c i p r).p w S ↔ ∃ gp kp up,Sep w (rRb c i p gp kp up r) S:=by unfold rROB;exact Iff.rfl
theorem Turns.rob {c:ConfP} {i:Int} {p gp kp up:Nat} {r:RM} {w w':World} {S:Nat->Prop} (h:Turns (rRb c i p gp kp up r) w w' S):Turn (rROB c i p r) w w' S:=by
 obtain ⟨h1,S',h2,h3⟩:=h
 exact ⟨h1,S',rROB_p.2 ⟨gp,kp,up,h2⟩,h3⟩
theorem Has.rob {c:ConfP} {i:Int} {p:Nat} {r:RM} {w:World} (h:Has w (rROB c i p r)): ∃ gp kp up,∀ x∈rRb c i p gp kp up r,Has w x:=by
 obtain ⟨S,h⟩:=h
 obtain ⟨gp,kp,up,h⟩:=rROB_p.1 h
 exact ⟨gp,kp,up,fun x hx=>h.has hx⟩
theorem Know.rob {c:ConfP} {i:Int} {p:Nat} {r:RM} {w:World} {S:Nat->Prop} {L:List Res} (h:Know w w S [rROB c i p r] L): ∃ gp kp up,Know w w S (rRb c i p gp kp up r) L:=by
 obtain ⟨hm,U,⟨S1,V,h1,h2,h3,h4⟩,h5,h6⟩:=h
 obtain ⟨gp,kp,up,k⟩:=rROB_p.1 h1
 have hU: ∀ b,U b ↔ S1 b:=fun b=>(h4 b).trans ⟨fun h=>h.resolve_right (h2 b),.inl⟩
 exact ⟨gp,kp,up,hm,S1,k,fun b hb=>h5 b ((hU b).2 hb),fun r hr=>by
  obtain ⟨T,i1,i2⟩:=h6 r hr
  exact ⟨T,i1,fun b hb hs=>i2 b hb ((hU b).2 hs)⟩⟩
def RNewPost (c:ConfV) (i:Int) (w:World) (e:Ending) (w':World):Prop:=
    (¬ MayP c.p/\e=.returned (.tuple #[.pointer none,.int .i64 5])/\Mod none' w w')\/
    (MayP c.p/\ ¬ (0<=i/\i<c.robots.l.length)/\e=.returned (.tuple #[.pointer none,.int .i64 1])/\Mod none' w w')\/
    (MayP c.p/\0<=i/\ ∃ p u,c.robots.l[i.toNat]?=some u/\e=.returned (.tuple #[.pointer (some ⟨p,0,none⟩),.int .i64 0])/\Turn (rROB c.p i p (RM.start u)) w w' none')
set_option maxHeartbeats 2000000 in
theorem rb_new {c:ConfV} {i:Int} {w:World} (hc:Has w (rConf c)) (hst:Has w stepsR) (hz:Sized c) (hwf: ∀ p∈c.robots.l,PoseWf p):Calls Tryz.prog 34 #[.agg c.cells.toArray,.int .i64 i] w (RNewPost c i w):=by
 have hK:Know w w none' [] [rRd elPose c.robots.val c.robots.l,rConf c,stepsR]:=Know.start (L:=[rRd elPose c.robots.val c.robots.l,rConf c,stepsR]) w (by
  intro r hr
  simp only [List.mem_cons,List.not_mem_nil,or_false] at hr
  rcases hr with rfl|rfl|rfl
  · exact hc.robots.has
  · exact hc
  · exact hst)
 have km:=Lib.hid (fun (W:World) (h1:Has W (rConf c)) (h2:Has W stepsR)=>g_new h1 h2 hz hwf)
 have hb3:=hz.robots
 clear hc hst
 by_cases hi:0<=i/\i<c.robots.l.length
 · obtain ⟨hi0,hi1⟩:=hi
   obtain ⟨j,rfl⟩: ∃ j:Nat,i=(j:Int):=⟨i.toNat,by omega⟩
   obtain ⟨u,hu⟩: ∃ u,c.robots.l[j]?=some u:=⟨_,List.getElem?_eq_getElem (by omega)⟩
   have HU:=Lib.hid hu
   clear hu
   go_enter Tryz.func34,Tryz.ntmps34
   go_wp2_with (first
    |((with_reducible refine wb 2 ?_)
      (refine wl_boxK hK rfl rfl rfl rfl ?_;clear hK;intro w2 b2 hK))
    |(go_at_call 32
      refine (km.out _ (hK.has (by simp)) (hK.has (by simp))).mono ?_
      rintro e w' (⟨hn,rfl,m⟩|⟨hm,gp,rfl,hT⟩)
      all_goals first
       |(replace hK:=hK.same m;have HN:=Lib.hid hn;clear hn m)
       |(replace hK:=hK.push1 hT;have HM:=Lib.hid hm;clear hm hT))
    |(go_at_call 63;(refine (kn_new (u:=c.unit) (a:=c.accel) (s:=c.speed) (kinOf_ok HM.out)).mono ?_;rintro e w' ⟨kp,rfl,hT⟩;replace hK:=hK.push1 hT;clear hT))
    |((with_reducible refine wt 43 ?_);(refine wl_ixK (xs:=c.robots.l) (u:=u) hK rfl rfl rfl rfl poseTy.und poseTy.size (hu:=HU) (h:=?_);intro b43 k43 hat43))
    |((with_reducible refine wt 44 ?_)
      (refine wl_loadP0 [.int .i64 u.at_.x,.int .i64 u.at_.y,.bool u.down] rfl rfl rfl (aggT (by decide)) (h:=?_)))
    |((with_reducible refine wb 46 ?_)
      (refine wl_boxK (zs:=rbCells j gp kp 0 (RM.start u)) hK rfl rfl rfl (by kernel_rfl) ?_;clear hK;intro w46 b46 hK))
    |go_big_skip
    |go_big_skip
    |((with_reducible refine wl ?_);refine ldQ ?_)
    |(with_reducible refine en ?_))
   · go_ret2
     exact .inl ⟨HN.out,rfl,hK.mod⟩
   · go_ret2
     refine .inr (.inr ⟨HM.out,by omega,b46,u,HU.out,rfl,Turns.rob (gp:=gp) (kp:=kp) (up:=0) ?_⟩)
     have hK2:=(hK.sub (M':=[rBlk b46 (rbCells j gp kp 0 (RM.start u)) 120,rKIN (kinOf c.p) kp,rGRID c.p gp]) (.cons_cons _ (.cons_cons _ (.cons_cons _ (.cons _ .slnil))))).pull (.tail (.tail .head))
     exact (hK2.pull (.tail .head)).turns
 · go_enter Tryz.func34,Tryz.ntmps34
   have hi2:i<0\/(0<=i/\c.robots.l.length<=i):=by omega
   have HI:=Lib.hid hi
   clear hi
   rcases hi2 with h0|⟨h0,h1⟩
   · have d0:decide (i<0)=true:=decide_eq_true h0
     go_wp2_with (first
      |((with_reducible refine wb 2 ?_)
        (refine wl_boxK hK rfl rfl rfl rfl ?_;clear hK;intro w2 b2 hK))
      |(go_at_call 32
        refine (km.out _ (hK.has (by simp)) (hK.has (by simp))).mono ?_
        rintro e w' (⟨hn,rfl,m⟩|⟨hm,gp,rfl,hT⟩)
        all_goals first
         |(replace hK:=hK.same m;have HN:=Lib.hid hn;clear hn m)
         |(replace hK:=hK.push1 hT;have HM:=Lib.hid hm;clear hm hT))
      |go_big_skip
      |go_big_skip
      |((with_reducible refine wl ?_);refine ldQ ?_)
      |(with_reducible refine en ?_))
     · go_ret2
       exact .inl ⟨HN.out,rfl,hK.mod⟩
     · go_ret2
       exact .inr (.inl ⟨HM.out,HI.out,rfl,hK.mod⟩)
   · have d0:decide (i<0)=false:=decide_eq_false (by omega)
     have d1:decide ((c.robots.l.length:Int)<=i)=true:=decide_eq_true h1
     go_wp2_with (first
      |((with_reducible refine wb 2 ?_)
        (refine wl_boxK hK rfl rfl rfl rfl ?_;clear hK;intro w2 b2 hK))
      |(go_at_call 32
        refine (km.out _ (hK.has (by simp)) (hK.has (by simp))).mono ?_
        rintro e w' (⟨hn,rfl,m⟩|⟨hm,gp,rfl,hT⟩)
        all_goals first
         |(replace hK:=hK.same m;have HN:=Lib.hid hn;clear hn m)
         |(replace hK:=hK.push1 hT;have HM:=Lib.hid hm;clear hm hT))
      |go_big_skip
      |go_big_skip
      |((with_reducible refine wl ?_);refine ldQ ?_)
      |(with_reducible refine en ?_))
     · go_ret2
       exact .inl ⟨HN.out,rfl,hK.mod⟩
     · go_ret2
       exact .inr (.inl ⟨HM.out,HI.out,rfl,hK.mod⟩)
end Go.Proofs.YtngeeilkpnihmaaGreatDoor
namespace Go.Proofs.YtngeeilkpnihmaaGreatDoor
open Go Go.Sk Go.RowKit
set_option maxRecDepth 100000
def moveZ:List Value:=[.int .i64 0,.int .i64 0,.int .i64 0,.int .i64 0,.int .i64 0,.bool false,.int .i64 0,.int .i64 0,.bool false,.int .i64 0,.int .i64 0]
def poseZ3:List Value:=[.int .i64 0,.int .i64 0,.bool false]
theorem move_one (m:Go.Sk.Move): ∀ v∈m.cells,v.oneCell'=true:=ofKinds_one moveKs _ m.ks
theorem pose_one (p:Pose): ∀ v∈p.cells,v.oneCell'=true:=ofKinds_one Go.Sk.poseKs _ p.ks
theorem Has.robK {c:ConfP} {i:Int} {p:Nat} {r:RM} {w:World} (h:Has w (rROB c i p r)): ∃ gp kp up,Know w w none' [] (rRb c i p gp kp up r):=by
 obtain ⟨gp,kp,up,h⟩:=Has.rob h
 exact ⟨gp,kp,up,Know.start w h⟩
set_option maxHeartbeats 1000000 in
theorem rb_pose {c:ConfP} {i:Int} {p:Nat} {r:RM} {w:World} (h:Has w (rROB c i p r)):Calls Tryz.prog 42 #[.pointer (some ⟨p,0,none⟩)] w (Ret (.agg r.pose.cells.toArray) w):=by
 obtain ⟨gp,kp,up,hK⟩:=Has.robK h
 clear h
 simp only [rRb,rbCells] at hK
 go_enter Tryz.func42,Tryz.ntmps42
 go_wp2_with (first
  |((with_reducible refine wl_at (o:=⟨some 2,.alloc _,_,_,_,_⟩) ?_)
    (refine wl_allocK (z:=.agg (poseZ3).toArray) (zs:=poseZ3) hK rfl rfl (by kernel_rfl) rfl ?_;clear hK;intro w2 b2 hK))
  |((with_reducible refine wl_at (o:=⟨none,.store 36 _ _,_,_,_,_⟩) ?_)
    (refine wl_storeWK (vs:=Pose.cells r.pose) hK rfl rfl rfl rfl (aggS (by decide)) (pose_one _) (h:=?_);clear hK;intro w' hK;simp only [z0,z1] at hK))
  |((with_reducible refine wt 9 ?_);(refine wl_loadPK (Pose.cells r.pose) hK rfl rfl rfl (aggT (by decide)) (h:=?_)))
  |go_big_skip
  |go_big_skip
  |((with_reducible refine wl ?_);refine ldQ ?_)
  |(with_reducible refine en ?_))
 exact bodyPost_ret (res_cellS rfl _ rfl (aggT (by decide)) rfl (hK.blk (b:=b2) (cs:=Pose.cells r.pose)).at0) rfl ⟨rfl,hK.mod⟩
set_option maxHeartbeats 1000000 in
theorem rb_now {c:ConfP} {i:Int} {p:Nat} {r:RM} {w:World} (h:Has w (rROB c i p r)):Calls Tryz.prog 37 #[.pointer (some ⟨p,0,none⟩)] w (Ret (.tuple #[.agg r.now.cells.toArray,.bool r.under.isSome]) w):=by
 obtain ⟨gp,kp,up,hK⟩:=Has.robK h
 clear h
 obtain ⟨pose,load,epoch,num,under,stopping,delay⟩:=r
 cases under with
 |none=>
  simp only [rRb,rbCells,underV,underRes] at hK
  go_enter Tryz.func37,Tryz.ntmps37
  go_wp2_with (first
   |((with_reducible refine wl_at (o:=⟨some 2,.alloc _,_,_,_,_⟩) ?_)
     (refine wl_allocK (z:=.agg (moveZ).toArray) (zs:=moveZ) hK rfl rfl (by kernel_rfl) rfl ?_;clear hK;intro w2 b2 hK))
   |((with_reducible refine wl_at (o:=⟨none,.store 38 _ _,_,_,_,_⟩) ?_)
     (refine wl_storeWK (vs:=Go.Sk.Move.cells mvZ) hK rfl rfl rfl rfl (aggS (by decide)) (move_one _) (h:=?_);clear hK;intro w' hK;simp only [z0,z1] at hK))
   |go_big_skip
   |go_big_skip
   |((with_reducible refine wl ?_);refine ldQ ?_)
   |(with_reducible refine en ?_))
  exact bodyPost_ret (res_cellS_tmp rfl _ rfl (aggT (by decide)) rfl (hK.blk (b:=b2) (cs:=Go.Sk.Move.cells mvZ)).at0) rfl ⟨rfl,hK.mod⟩
 |some u=>
  simp only [rRb,rbCells,underV,underRes,goCells] at hK
  go_enter Tryz.func37,Tryz.ntmps37
  go_wp2_with (first
   |((with_reducible refine wl_at (o:=⟨some 2,.alloc _,_,_,_,_⟩) ?_)
     (refine wl_allocK (z:=.agg (moveZ).toArray) (zs:=moveZ) hK rfl rfl (by kernel_rfl) rfl ?_;clear hK;intro w2 b2 hK))
   |((with_reducible refine wl_at (o:=⟨none,.store 38 _ _,_,_,_,_⟩) ?_)
     (refine wl_storeWK (vs:=Go.Sk.Move.cells u.move) hK rfl rfl rfl rfl (aggS (by decide)) (move_one _) (h:=?_);clear hK;intro w' hK;simp only [z0,z1] at hK))
   |((with_reducible refine wt 20 ?_);(refine wl_loadPK (Go.Sk.Move.cells u.move) hK rfl rfl rfl (aggT (by decide)) (h:=?_)))
   |go_big_skip
   |go_big_skip
   |((with_reducible refine wl ?_);refine ldQ ?_)
   |(with_reducible refine en ?_))
  exact bodyPost_ret (res_cellS_tmp rfl _ rfl (aggT (by decide)) rfl (hK.blk (b:=b2) (cs:=Go.Sk.Move.cells u.move)).at0) rfl ⟨rfl,hK.mod⟩
abbrev elTele:El Tele:=⟨Tele.cells,19,fun _=>rfl,fun x v hv=>ofKinds_one teleKs _ x.ks v hv⟩
set_option maxHeartbeats 1000000 in
theorem rb_tell {c:ConfP} {i:Int} {p:Nat} {r:RM} {w:World} (h:Has w (rROB c i p r)):Calls Tryz.prog 41 #[.pointer (some ⟨p,0,none⟩)] w fun e w'=>
 ∃ ad,e=.returned (.slice ad 1 1)/\Turn (rOw 58 elTele (.slice ad 1 1) [r.tell i]) w w' none':=by
 obtain ⟨gp,kp,up,hK⟩:=Has.robK h
 clear h
 obtain ⟨t,ht⟩: ∃ t,t=r.tell i:=⟨_,rfl⟩
 rw [<-ht]
 have HT:=Lib.hid ht
 unfold RM.tell at ht
 simp only [rRb,rbCells] at hK
 by_cases h0:r.num=0
 · have d0:decide (r.num=0)=true:=decide_eq_true h0
   have d0':(r.num == 0)=true:=beq_iff_eq.2 h0
   by_cases h1:0<r.epoch
   · have d1:decide (0<r.epoch)=true:=decide_eq_true h1
     rw [if_pos ⟨h0,h1⟩] at ht
     clear HT h0
     subst ht
     go_enter Tryz.func41,Tryz.ntmps41
     go_wp2_with (first
      |((with_reducible refine wt 28 ?_);(refine wl_loadPK [.int .i64 r.pose.at_.x,.int .i64 r.pose.at_.y,.bool r.pose.down] hK rfl rfl rfl (aggT (by decide)) (h:=?_)))
      |((with_reducible refine wt 34 ?_)
        (refine wl_buildK 58 elTele [(⟨4,i,r.epoch,0,mvZ,r.pose,r.load⟩:Tele)] hK rfl rfl (fun W=>by kernel_rfl) rfl (by decide) ?_;clear hK;intro ad w34 hK))
      |((with_reducible refine tx 4 hK ?_);clear hK;intro w' hK)
      |((with_reducible refine tx 5 hK ?_);clear hK;intro w' hK)
      |go_big_skip
      |go_big_skip
      |((with_reducible refine wl ?_);refine ldQ ?_)
      |(with_reducible refine en ?_))
     go_ret
     exact ⟨ad,rfl,hK.turn⟩
   · have d1:decide (0<r.epoch)=false:=decide_eq_false h1
     rw [if_neg (fun e=>h1 e.2)] at ht
     clear HT h0
     subst ht
     go_enter Tryz.func41,Tryz.ntmps41
     go_wp2_with (first
      |((with_reducible refine wt 48 ?_)
        (refine wl_buildK 58 elTele [(⟨3,i,r.epoch,r.num,mvZ,poseO,0⟩:Tele)] hK rfl rfl (fun W=>by kernel_rfl) rfl (by decide) ?_;clear hK;intro ad w48 hK))
      |((with_reducible refine tx 4 hK ?_);clear hK;intro w' hK)
      |((with_reducible refine tx 5 hK ?_);clear hK;intro w' hK)
      |go_big_skip
      |go_big_skip
      |((with_reducible refine wl ?_);refine ldQ ?_)
      |(with_reducible refine en ?_))
     go_ret
     exact ⟨ad,rfl,hK.turn⟩
 · have d0:decide (r.num=0)=false:=decide_eq_false h0
   have d0':(r.num == 0)=false:=beq_eq_false_iff_ne.2 h0
   rw [if_neg (fun e=>h0 e.1)] at ht
   clear HT h0
   subst ht
   go_enter Tryz.func41,Tryz.ntmps41
   go_wp2_with (first
    |((with_reducible refine wt 48 ?_)
      (refine wl_buildK 58 elTele [(⟨3,i,r.epoch,r.num,mvZ,poseO,0⟩:Tele)] hK rfl rfl (fun W=>by kernel_rfl) rfl (by decide) ?_;clear hK;intro ad w48 hK))
    |((with_reducible refine tx 4 hK ?_);clear hK;intro w' hK)
    |((with_reducible refine tx 5 hK ?_);clear hK;intro w' hK)
    |go_big_skip
    |go_big_skip
    |((with_reducible refine wl ?_);refine ldQ ?_)
    |(with_reducible refine en ?_))
   go_ret
   exact ⟨ad,rfl,hK.turn⟩
end Go.Proofs.YtngeeilkpnihmaaGreatDoor
namespace Go.Proofs.YtngeeilkpnihmaaGreatDoor
open Go Go.Sk Go.RowKit
set_option maxRecDepth 100000
theorem Know.robHas {c:ConfP} {i:Int} {p gp kp up:Nat} {r:RM} {w0 w:World} {S:Nat->Prop} {L:List Res} (h:Know w0 w S (rRb c i p gp kp up r) L):Has w (rROB c i p r):=by
 obtain ⟨_,S',h2,_⟩:=Turns.rob h.turns
 exact ⟨S',h2⟩
theorem Know.robAll {c:ConfP} {i:Int} {p gp kp up:Nat} {r:RM} {w0 w:World} {S:Nat->Prop} {X:Res} {L:List Res} (h:Know w0 w S (X::rRb c i p gp kp up r) L):Know w0 w S [X,rROB c i p r] L:=by
 obtain ⟨hm,U,⟨S1,V,h1,h2,h3,h4⟩,h5,h6⟩:=h
 exact ⟨hm,U,⟨S1,V,h1,Sep.one (rROB_p.2 ⟨gp,kp,up,h2⟩),h3,h4⟩,h5,h6⟩
theorem rb_goes_old {c:ConfP} {i:Int} {p:Nat} {r:RM} {t:Tele} {w:World} (h:Has w (rROB c i p r)) (ht:t.epoch<r.epoch):Calls Tryz.prog 65 #[.pointer (some ⟨p,0,none⟩),.agg t.cells.toArray] w (Ret (.tuple #[.slice none 0 0,.int .i64 2]) w):=by
 obtain ⟨gp,kp,up,hK⟩:=Has.robK h
 clear h
 simp only [rRb,rbCells] at hK
 have d1:decide (t.epoch<r.epoch)=true:=decide_eq_true ht
 go_enter Tryz.func65,Tryz.ntmps65
 go_wp2_with (first
  |((with_reducible refine wb 3 ?_)
    (refine wl_boxK hK rfl rfl rfl rfl ?_;clear hK;intro w3 b3 hK))
  |((with_reducible refine tx 1 hK ?_);clear hK;intro w' hK)
  |go_big_skip
  |go_big_skip
  |((with_reducible refine wl ?_);refine ldQ ?_)
  |(with_reducible refine en ?_))
 go_ret2
 exact ⟨rfl,hK.mod⟩
theorem rb_stops_stand {c:ConfP} {i e:Int} {p:Nat} {r:RM} {w:World} {S:Nat->Prop} (h:Know w w S [rROB c i p r] []) (hu:r.under=none) (he:r.epoch<e) (h0:0<=r.epoch):Calls Tryz.prog 66 #[.pointer (some ⟨p,0,none⟩),.int .i64 e] w fun en w'=>
 ∃ ad,en=.returned (.tuple #[.slice ad 1 1,.int .i64 3])/\Turns [rOw 58 elTele (.slice ad 1 1) [({r with epoch:=e,num:=0}:RM).tell i],rROB c i p {r with epoch:=e,num:=0}] w w' S:=by
 obtain ⟨gp,kp,up,hK⟩:=Know.rob h
 clear h
 obtain ⟨pose,load,epoch,num,under,stopping,delay⟩:=r
 simp only at hu he h0
 subst hu
 simp only [rRb,rbCells,underV,underRes] at hK
 have d1:decide (e<epoch)=false:=decide_eq_false (by omega)
 have d2:decide (epoch<e)=true:=decide_eq_true he
 have d3:decide (e=0)=false:=decide_eq_false (by omega)
 have d3':(e == 0)=false:=beq_eq_false_iff_ne.2 (by omega)
 obtain ⟨T,hT⟩: ∃ T,({pose:=pose,load:=load,epoch:=e,num:=0,under:=none,stopping:=stopping,delay:=delay}:RM).tell i=T:=⟨_,rfl⟩
 rw [hT]
 have HT:=Lib.hid hT
 clear hT
 go_enter Tryz.func66,Tryz.ntmps66
 go_wp2_with (first
  |((with_reducible refine wl_at (o:=⟨none,.store 3 (.tmp 25) _,_,_,_,_⟩) ?_);(refine wl_storeK hK rfl rfl rfl rfl (sizT (by decide)) rfl (hk:=by simp) (h:=?_);clear hK;intro w' hK;simp only [z0,z1] at hK))
  |((with_reducible refine wl_at (o:=⟨none,.store 3 (.tmp 27) _,_,_,_,_⟩) ?_);(refine wl_storeK hK rfl rfl rfl rfl (sizT (by decide)) rfl (hk:=by simp) (h:=?_);clear hK;intro w' hK;simp only [z0,z1] at hK))
  |(go_at_call 41;(refine (rb_tell (c:=c) (i:=i) (p:=p) (r:={pose:=pose,load:=load,epoch:=e,num:=0,under:=none,stopping:=stopping,delay:=delay}) (Know.robHas (gp:=gp) (kp:=kp) (up:=up) hK)).mono ?_;rintro en w' ⟨ad,rfl,hT⟩;replace hK:=hK.push1 hT;rw [HT.out] at hK;clear hT))
  |go_big_skip
  |go_big_skip
  |((with_reducible refine wl ?_);refine ldQ ?_)
  |(with_reducible refine en ?_))
 go_ret2
 exact ⟨ad,rfl,(Know.robAll (gp:=gp) (kp:=kp) (up:=up) hK).turns⟩
theorem rb_hear_none {c:ConfP} {i:Int} {p:Nat} {r:RM} {t:Tele} {w:World} (h:Has w (rROB c i p r)) (ht:t.robot≠i\/(t.kind≠1/\t.kind≠2)):Calls Tryz.prog 36 #[.pointer (some ⟨p,0,none⟩),.agg t.cells.toArray] w (Ret (.tuple #[.slice none 0 0,.int .i64 0]) w):=by
 obtain ⟨gp,kp,up,hK⟩:=Has.robK h
 clear h
 simp only [rRb,rbCells] at hK
 by_cases hr:t.robot=i
 · obtain ⟨h1,h2⟩:=ht.resolve_left (fun e=>e hr)
   have d1:(t.kind == 1)=false:=beq_eq_false_iff_ne.2 h1
   have d1':decide (t.kind=1)=false:=decide_eq_false h1
   have d2:(t.kind == 2)=false:=beq_eq_false_iff_ne.2 h2
   have d2':decide (t.kind=2)=false:=decide_eq_false h2
   have d3:(t.robot !=i)=false:=by simp [hr]
   go_enter Tryz.func36,Tryz.ntmps36
   go_wp2_with (first
    |((with_reducible refine wb 3 ?_)
      (refine wl_boxK hK rfl rfl rfl rfl ?_;clear hK;intro w3 b3 hK))
    |((with_reducible refine tx 1 hK ?_);clear hK;intro w' hK)
    |go_big_skip
    |go_big_skip
    |((with_reducible refine wl ?_);refine ldQ ?_)
    |(with_reducible refine en ?_))
   go_ret2
   exact ⟨rfl,hK.mod⟩
 · have d3:(t.robot !=i)=true:=bne_iff_ne.2 hr
   have d3':decide (t.robot=i)=false:=decide_eq_false hr
   go_enter Tryz.func36,Tryz.ntmps36
   go_wp2_with (first
    |((with_reducible refine wb 3 ?_)
      (refine wl_boxK hK rfl rfl rfl rfl ?_;clear hK;intro w3 b3 hK))
    |((with_reducible refine tx 1 hK ?_);clear hK;intro w' hK)
    |go_big_skip
    |go_big_skip
    |((with_reducible refine wl ?_);refine ldQ ?_)
    |(with_reducible refine en ?_))
   go_ret2
   exact ⟨rfl,hK.mod⟩
end Go.Proofs.YtngeeilkpnihmaaGreatDoor
namespace Go.Proofs.YtngeeilkpnihmaaGreatDoor
open Go Go.Sk Go.RowKit
set_option maxRecDepth 100000
theorem poseEq:eqTy Tryz.prog 36 Go.Sk.poseKs=true:=by kernel_rfl
section
variable {P:Program} {ops:Array Oper} {Q:Exit->Act->World->Prop} {o:Oper} {rest:List Oper} {a:Act} {w:World}
theorem wl_eqlP {t yt:TypeId} {x y:Operand} (c d:Pose) (ht:eqTy P t Go.Sk.poseKs=true) (ho:o.op=.binOp .eql t x y yt) (hw:Region.wanted o (yielded ops a.tmps)=true) (hx:a.eval x=.agg c.cells.toArray) (hy:a.eval y=.agg d.cells.toArray)
 (h:wpList P ops Q rest (a.put o.dst (.bool (decide (c=d)))) w):wpList P ops Q (o::rest) a w:=
 wl_eqlS ho hw hx hy ht c.ks d.ks (by rw [Pose.eq];exact h)
theorem wl_neqP {t yt:TypeId} {x y:Operand} (c d:Pose) (ht:eqTy P t Go.Sk.poseKs=true) (ho:o.op=.binOp .neq t x y yt) (hw:Region.wanted o (yielded ops a.tmps)=true) (hx:a.eval x=.agg c.cells.toArray) (hy:a.eval y=.agg d.cells.toArray)
 (h:wpList P ops Q rest (a.put o.dst (.bool (!decide (c=d)))) w):wpList P ops Q (o::rest) a w:=
 wl_neqS ho hw hx hy ht c.ks d.ks (by rw [Pose.eq];exact h)
end
theorem rb_tick_none {c:ConfP} {i:Int} {p:Nat} {r:RM} {w:World} (h:Has w (rROB c i p r)) (hu:r.under=none):Calls Tryz.prog 39 #[.pointer (some ⟨p,0,none⟩)] w (Ret (.tuple #[.agg mvZ.cells.toArray,.int .i64 0]) w):=by
 obtain ⟨gp,kp,up,hK⟩:=Has.robK h
 clear h
 obtain ⟨pose,load,epoch,num,under,stopping,delay⟩:=r
 simp only at hu
 subst hu
 simp only [rRb,rbCells,underV,underRes] at hK
 go_enter Tryz.func39,Tryz.ntmps39
 go_wp2_with (first
  |((with_reducible refine wl_at (o:=⟨some 2,.alloc _,_,_,_,_⟩) ?_)
    (refine wl_allocK (z:=.agg (moveZ).toArray) (zs:=moveZ) hK rfl rfl (by kernel_rfl) rfl ?_;clear hK;intro w2 b2 hK))
  |((with_reducible refine wl_at (o:=⟨none,.store 38 _ _,_,_,_,_⟩) ?_)
    (refine wl_storeWK (vs:=Go.Sk.Move.cells mvZ) hK rfl rfl rfl rfl (aggS (by decide)) (move_one _) (h:=?_);clear hK;intro w' hK;simp only [z0,z1] at hK))
  |go_big_skip
  |go_big_skip
  |((with_reducible refine wl ?_);refine ldQ ?_)
  |(with_reducible refine en ?_))
 exact bodyPost_ret (res_cellS_tmp rfl _ rfl (aggT (by decide)) rfl (hK.blk (b:=b2) (cs:=Go.Sk.Move.cells mvZ)).at0) rfl ⟨rfl,hK.mod⟩
end Go.Proofs.YtngeeilkpnihmaaGreatDoor
