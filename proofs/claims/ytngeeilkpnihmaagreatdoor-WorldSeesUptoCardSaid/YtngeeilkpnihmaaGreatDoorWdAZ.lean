/- Texts of mine that belong together: SkSight, Wd1, Wd2, Wd3. -/
import Derived.Test.YtngeeilkpnihmaaGreatDoorSkDZ
import Derived.Test.YtngeeilkpnihmaaGreatDoorStCZ
import Derived.Test.YtngeeilkpnihmaaGreatDoorRbAZ
import Derived.Test.YtngeeilkpnihmaaGreatDoorStAZ
import Derived.Test.YtngeeilkpnihmaaGreatDoorSkBZ
import Derived.Test.YtngeeilkpnihmaaGreatDoorRbCZ
set_option linter.all false
namespace Go.Sk
open Go
structure Sight where
 kind:Int
 tick:Int
 robot:Int
 bin:Int
 pose:Pose
 move:Move
def Sight.cells (s:Sight):List Value:=[.int .i64 s.kind,.int .i64 s.tick,.int .i64 s.robot,.int .i64 s.bin]++s.pose.cells++s.move.cells
def sightKs:List (Option IntKind):=[some .i64,some .i64,some .i64,some .i64]++poseKs++moveKs
theorem Sight.ks (c:Sight):ofKinds sightKs c.cells=true:=rfl
abbrev elSight:El Sight:=⟨Sight.cells,18,fun _=>rfl,fun x=>ofKinds_one _ _ x.ks⟩
def Sight.zero:Sight:=⟨0,0,0,0,poseO,mvZ⟩
abbrev elPtr:El Nat:=⟨fun p=>[.pointer (some ⟨p,0,none⟩)],1,fun _=>rfl,fun x v hv=>by
 simp only [List.mem_singleton] at hv
 subst hv
 rfl⟩
end Go.Sk
namespace Go.Proofs.YtngeeilkpnihmaaGreatDoor
open Go Go.Sk Go.RowKit
set_option maxRecDepth 100000
structure WM where
 s:SM
 rs:List RM
 now:Int
 l:List Sight
def WM.start (c:ConfP):WM:=⟨SM.start c,c.robots.map RM.start,0,[]⟩
structure Seen where
 kind:Int
 bin:Int
 move:Go.Sk.Move
def Seen.at (x:Seen) (now:Int) (i:Nat) (p:Pose):Sight:=⟨x.kind,now,i,x.bin,p,x.move⟩
def WM.see (w:WM) (i:Nat) (p:Pose) (xs:List Seen):WM:={w with l:=w.l++xs.map fun x=>x.at w.now i p}
def heardS (how:Int) (m:Go.Sk.Move):List Seen:=if how=1 then [⟨1,0,m⟩] else if how=2 then [⟨7,0,mvZ⟩] else if how=3 then [⟨3,0,mvZ⟩] else []
def WM.hear (c:ConfP) (w:WM) (t:Tele):WM×List Tele:=
 if 0<=t.robot then
  match w.rs[t.robot.toNat]? with
  |some r=>(({w with rs:=w.rs.set t.robot.toNat (r.hear c (kinOf c) t.robot t).1}:WM).see t.robot.toNat (r.hear c (kinOf c) t.robot t).1.pose (heardS (r.hear c (kinOf c) t.robot t).2.2 (r.hear c (kinOf c) t.robot t).1.now),(r.hear c (kinOf c) t.robot t).2.1)
  |none=>(w,[])
 else (w,[])
def hoistW (c:ConfP) (s:SM) (i:Nat) (r:RM) (kind:Int):SM×RM×List Seen:=
 if kind=3 then
  if s.liftE c i r.pose.at_=0 then (s.lift c i r.pose.at_,r.carry (s.liftV c i r.pose.at_),[⟨4,s.liftV c i r.pose.at_,mvZ⟩]) else (s,r,[⟨8,0,mvZ⟩])
 else
  if s.dropE c i r.pose.at_=0 then (s.drop c i r.pose.at_,r.carry 0,⟨5,s.load i,mvZ⟩::(if 0<=portOf c r.pose.at_ then [⟨6,s.load i,mvZ⟩] else [])) else (s,r,[⟨8,0,mvZ⟩])
def tickW (c:ConfP) (s:SM) (i:Nat) (r:RM):SM×RM×List Seen×List Tele:=
 if r.tick.2.2=0 then (s,r.tick.1,[],[])
 else if r.tick.2.1.kind=3\/r.tick.2.1.kind=4 then
  ((hoistW c s i r.tick.1 r.tick.2.1.kind).1,(hoistW c s i r.tick.1 r.tick.2.1.kind).2.1,(hoistW c s i r.tick.1 r.tick.2.1.kind).2.2++(⟨2,0,r.tick.2.1⟩::if r.tick.2.2=2 then [⟨3,0,mvZ⟩] else []),[(hoistW c s i r.tick.1 r.tick.2.1.kind).2.1.tell i])
 else (s,r.tick.1,⟨2,0,r.tick.2.1⟩::(if r.tick.2.2=2 then [⟨3,0,mvZ⟩] else []),[r.tick.1.tell i])
def WM.ticks (c:ConfP) (w:WM):Nat->WM×List Tele
 |0=>({w with now:=w.now+1},[])
 |n+1=>
  match (w.ticks c n).1.rs[n]? with
  |some r=>((({(w.ticks c n).1 with s:=(tickW c (w.ticks c n).1.s n r).1,rs:=(w.ticks c n).1.rs.set n (tickW c (w.ticks c n).1.s n r).2.1}:WM).see n r.tick.1.pose (tickW c (w.ticks c n).1.s n r).2.2.1),(w.ticks c n).2++(tickW c (w.ticks c n).1.s n r).2.2.2)
  |none=>w.ticks c n
def WM.tick (c:ConfP) (w:WM):WM×List Tele:=w.ticks c w.rs.length
def robsW (c:ConfP) (ps:List Nat) (rs:List RM):List Res:=(List.range rs.length).map fun (i:Nat)=>rROB c (i:Int) (ps.getD i 0) (rs.getD i (RM.start poseO))
def wdCells (gp sp:Nat) (ra:Option Addr) (n rc:Nat) (now:Int) (sa:Option Addr) (k sc:Nat):List Value:=[.pointer (some ⟨gp,0,none⟩),.pointer (some ⟨sp,0,none⟩),.slice ra n rc,.int .i64 now,.slice sa k sc]
def rWd (c:ConfP) (wp gp sp:Nat) (ra:Option Addr) (rc:Nat) (ps:List Nat) (sa:Option Addr) (sc:Nat) (m:WM):List Res:=
 [rBlk wp (wdCells gp sp ra ps.length rc m.now sa m.l.length sc) 80,rGRID c gp,rSTK c sp m.s,rMany (robsW c ps m.rs),rOw 81 elPtr (.slice ra ps.length rc) ps,rOw 43 elSight (.slice sa m.l.length sc) m.l]
@[irreducible] def rWLD (c:ConfP) (wp:Nat) (m:WM):Res where
  p w S:= ∃ gp sp ra rc ps sa sc,ps.length=m.rs.length/\Sep w (rWd c wp gp sp ra rc ps sa sc m) S
  loc:=by rintro w w' S ⟨a,b,d,e,f,g,h,h1,h2⟩ he;exact ⟨a,b,d,e,f,g,h,h1,h2.loc he⟩
  lt:=by rintro w S ⟨_,_,_,_,_,_,_,_,h⟩;exact h.lt
theorem rWLD_p {c:ConfP} {wp:Nat} {m:WM} {w:World} {S:Nat->Prop}:(rWLD c wp m).p w S ↔ ∃ gp sp ra rc ps sa sc,ps.length=m.rs.length/\Sep w (rWd c wp gp sp ra rc ps sa sc m) S:=by unfold rWLD;exact Iff.rfl
theorem Know.wld {c:ConfP} {wp:Nat} {m:WM} {w:World} {S:Nat->Prop} {L:List Res} (h:Know w w S [rWLD c wp m] L): ∃ gp sp ra rc ps sa sc,ps.length=m.rs.length/\Know w w S (rWd c wp gp sp ra rc ps sa sc m) L:=by
 obtain ⟨hm,U,⟨S1,V,h1,h2,h3,h4⟩,h5,h6⟩:=h
 obtain ⟨gp,sp,ra,rc,ps,sa,sc,hl,k⟩:=rWLD_p.1 h1
 have hU: ∀ b,U b ↔ S1 b:=fun b=>(h4 b).trans ⟨fun h=>h.resolve_right (h2 b),.inl⟩
 exact ⟨gp,sp,ra,rc,ps,sa,sc,hl,hm,S1,k,fun b hb=>h5 b ((hU b).2 hb),fun r hr=>by
  obtain ⟨T,i1,i2⟩:=h6 r hr
  exact ⟨T,i1,fun b hb hs=>i2 b hb ((hU b).2 hs)⟩⟩
theorem Turns.wld {c:ConfP} {wp gp sp:Nat} {ra:Option Addr} {rc:Nat} {ps:List Nat} {sa:Option Addr} {sc:Nat} {m:WM} {w w':World} {S:Nat->Prop} (hl:ps.length=m.rs.length) (h:Turns (rWd c wp gp sp ra rc ps sa sc m) w w' S):Turn (rWLD c wp m) w w' S:=by
 obtain ⟨h1,S',h2,h3⟩:=h
 exact ⟨h1,S',rWLD_p.2 ⟨gp,sp,ra,rc,ps,sa,sc,hl,h2⟩,h3⟩
theorem robsW_at {c:ConfP} {ps:List Nat} {rs:List RM} {i p:Nat} {r:RM} (hr:rs[i]?=some r) (hp:ps[i]?=some p):(robsW c ps rs)[i]?=some (rROB c i p r):=by
 have h1:i<rs.length:=(List.getElem?_eq_some_iff.1 hr).1
 unfold robsW
 rw [List.getElem?_map,List.getElem?_range h1,Option.map_some,List.getD_eq_getElem?_getD,List.getD_eq_getElem?_getD,hr,hp]
 rfl
theorem robsW_set {c:ConfP} {ps:List Nat} {rs:List RM} {i p:Nat} {r:RM} (hi:i<rs.length) (hp:ps[i]?=some p):(robsW c ps rs).set i (rROB c i p r)=robsW c ps (rs.set i r):=by
 apply List.ext_getElem?
 intro j
 unfold robsW
 rw [List.getElem?_set,List.length_map,List.length_range,List.length_set]
 by_cases hj:i=j
 · subst hj
   rw [if_pos rfl,if_pos hi,List.getElem?_map,List.getElem?_range hi,Option.map_some,List.getD_eq_getElem?_getD,List.getD_eq_getElem?_getD,hp,List.getElem?_set_self hi]
   rfl
 · rw [if_neg hj,List.getElem?_map,List.getElem?_map]
   cases hx:(List.range rs.length)[j]? with
   |none=>rfl
   |some y=>
    have hy:y=j:=by
     have h2:=List.getElem?_eq_some_iff.1 hx
     obtain ⟨h3,h4⟩:=h2
     simpa using h4.symm
    subst hy
    rw [Option.map_some,Option.map_some,List.getD_eq_getElem?_getD (l:=rs.set i r),List.getElem?_set_ne hj,<-List.getD_eq_getElem?_getD]
theorem robsW_len (c:ConfP) (ps:List Nat) (rs:List RM):(robsW c ps rs).length=rs.length:=by unfold robsW;rw [List.length_map,List.length_range]
end Go.Proofs.YtngeeilkpnihmaaGreatDoor
namespace Go.Proofs.YtngeeilkpnihmaaGreatDoor
open Go Go.Sk Go.RowKit
set_option maxRecDepth 100000
theorem sightTy:SliceTy Tryz.prog 40 43 elSight.sz 144 (Sight.cells Sight.zero):=
 SliceTy.mk' (z:=.agg (Sight.cells Sight.zero).toArray) (by kernel_rfl) (by kernel_rfl) rfl rfl
theorem ptrTy:SliceTy Tryz.prog 78 81 elPtr.sz 8 [.pointer none]:=
 SliceTy.mk' (z:=.pointer none) (by kernel_rfl) (by kernel_rfl) rfl rfl
set_option maxHeartbeats 1000000 in
theorem w_list {ad0:Option Addr} {c0:Nat} {l:List Sight} {w:World} (h:Rd w elSight (.slice ad0 l.length c0) l) (hl:l.length<=100000000):Calls Tryz.prog 29 #[.slice ad0 l.length c0] w fun e w'=> ∃ ad cap,e=.returned (.slice ad l.length cap)/\Turn (rOw 43 elSight (.slice ad l.length cap) l) w w' none':=by
 have hK:=Know.start (L:=[rRd elSight (.slice ad0 l.length c0) l]) w (by simpa using h.has)
 by_cases h0:l.length=0
 · obtain rfl:l=[]:=List.eq_nil_of_length_eq_zero h0
   clear h0
   go_enter Tryz.func29,Tryz.ntmps29
   go_wp2
   go_ret
   exact ⟨none,0,rfl,(hK.nil _ _).turn⟩
 · have e0:(((l.length:Nat):Int) == 0)=false:=beq_eq_false_iff_ne.2 (by omega)
   have hp:0<l.length:=by omega
   clear h0
   go_enter Tryz.func29,Tryz.ntmps29
   go_wp2_with (first
    |((with_reducible refine wt 9 ?_)
      (refine wl_makeK Sight.zero hK sightTy rfl rfl rfl rfl rfl (by omega) (by unfold maxLen;omega) ?_;clear hK;intro ad w9 hK))
    |((with_reducible refine wt 12 ?_)
      (refine wl_copyK (xs:=List.replicate l.length Sight.zero) hK sightTy rfl rfl rfl rfl hK.rd (by simp) (by simpa using hp) (h:=?_);clear hK;intro w12 hK;simp only [List.set_cons_zero] at hK))
    |go_big_skip
    |((with_reducible refine wl ?_);refine ldQ ?_)
    |(with_reducible refine en ?_))
   go_ret
   exact ⟨ad,l.length,rfl,hK.turn⟩
def robotV (ps:List Nat) (i:Int):Value:=if 0<=i then (match ps[i.toNat]? with|some p=>.pointer (some ⟨p,0,none⟩)|none=>.pointer none) else .pointer none
set_option maxHeartbeats 1000000 in
theorem w_robot {wp n:Nat} {g1 g2 g4 g5:Value} {ra:Option Addr} {rc:Nat} {ps:List Nat} {i:Int} {w:World} (h1:Has w (rBlk wp [g1,g2,.slice ra n rc,g4,g5] 80)) (h2:Has w (rOw 81 elPtr (.slice ra n rc) ps)) (hn:n=ps.length) (hl:ps.length<=1000):Calls Tryz.prog 30 #[.pointer (some ⟨wp,0,none⟩),.int .i64 i] w (Ret (robotV ps i) w):=by
 have hK:Know w w none' [] [rBlk wp [g1,g2,.slice ra n rc,g4,g5] 80,rOw 81 elPtr (.slice ra n rc) ps]:=Know.start (L:=[rBlk wp [g1,g2,.slice ra n rc,g4,g5] 80,rOw 81 elPtr (.slice ra n rc) ps]) w (by
  intro r hr
  simp only [List.mem_cons,List.not_mem_nil,or_false] at hr
  rcases hr with rfl|rfl
  · exact h1
  · exact h2)
 clear h1 h2
 have HN:=Lib.hid hn
 have hn2:n<=1000:=by omega
 clear hn hl
 obtain ⟨V,hV⟩: ∃ V,robotV ps i=V:=⟨_,rfl⟩
 rw [hV]
 unfold robotV at hV
 by_cases h0:0<=i
 · rw [if_pos h0] at hV
   obtain ⟨j,rfl⟩: ∃ j:Nat,i=(j:Int):=⟨i.toNat,by omega⟩
   rw [Int.toNat_natCast] at hV
   by_cases hj:j<n
   · obtain ⟨p,hp⟩: ∃ p,ps[j]?=some p:=⟨_,List.getElem?_eq_getElem (by rw [<-HN.out];exact hj)⟩
     rw [hp] at hV
     have HP:=Lib.hid hp
     have d1:decide ((j:Int)<0)=false:=decide_eq_false (by omega)
     have d2:decide ((n:Int)<=(j:Int))=false:=decide_eq_false (by omega)
     clear hp h0
     subst hV
     go_enter Tryz.func30,Tryz.ntmps30
     go_wp2_with (first
      |((with_reducible refine wt 25 ?_);(refine wl_ixK (i:=j) (u:=p) hK rfl rfl rfl rfl ptrTy.und ptrTy.size (xs:=ps) (hu:=HP) (h:=?_);intro b25 k25 hat25))
      |((with_reducible refine wt 26 ?_);refine wl_loadA0 rfl rfl rfl (scalT (by decide)) (hat:=hat25) (h:=?_))
      |go_big_skip
      |((with_reducible refine wl ?_);refine ldQ ?_)
      |(with_reducible refine en ?_))
     go_ret
     exact ⟨rfl,hK.mod⟩
   · rw [List.getElem?_eq_none (by rw [<-HN.out];omega)] at hV
     have d1:decide ((j:Int)<0)=false:=decide_eq_false (by omega)
     have d2:decide ((n:Int)<=(j:Int))=true:=decide_eq_true (by omega)
     clear h0
     subst hV
     go_enter Tryz.func30,Tryz.ntmps30
     go_wp2_with (first
      |go_big_skip
      |((with_reducible refine wl ?_);refine ldQ ?_)
      |(with_reducible refine en ?_))
     go_ret
     exact ⟨rfl,hK.mod⟩
 · rw [if_neg h0] at hV
   have d1:decide (i<0)=true:=decide_eq_true (by omega)
   clear h0
   subst hV
   go_enter Tryz.func30,Tryz.ntmps30
   go_wp2_with (first
    |go_big_skip
    |((with_reducible refine wl ?_);refine ldQ ?_)
    |(with_reducible refine en ?_))
   go_ret
   exact ⟨rfl,hK.mod⟩
def stampS (now:Int) (i:Nat) (p:Pose) (y:Sight):Sight:={y with tick:=now,robot:=i,pose:=p}
set_option maxHeartbeats 4000000 in
theorem w_sees {c:ConfP} {wp i:Nat} {m:WM} {r:RM} {xa:Option Addr} {xc:Nat} {ys:List Sight} {w:World} {S:Nat->Prop} {L:List Res} (hr:m.rs[i]?=some r) (hl:ys.length<=16) (hml:m.l.length<=100000000) (hrs:m.rs.length<=64) (h:Know w w S [rWLD c wp m] L) (hL:rRd elSight (.slice xa ys.length xc) ys∈L):
 Calls Tryz.prog 38 #[.pointer (some ⟨wp,0,none⟩),.int .i64 i,.slice xa ys.length xc] w fun e w'=>e=.returned (.tuple #[])/\Turn (rWLD c wp {m with l:=m.l++ys.map (stampS m.now i r.pose)}) w w' S:=by
 replace h:=h.subL (L':=[rRd elSight (.slice xa ys.length xc) ys]) (by simpa using hL)
 obtain ⟨gp,sp,ra,rc,ps,sa,sc,hlen,hK⟩:=Know.wld h
 clear h hL
 have hi:i<m.rs.length:=(List.getElem?_eq_some_iff.1 hr).1
 obtain ⟨p,hp⟩: ∃ p,ps[i]?=some p:=⟨_,List.getElem?_eq_getElem (by rw [hlen];exact hi)⟩
 have HP:=Lib.hid hp
 have kPo:=Lib.hid (fun (W:World) (h:Has W (rMany (robsW c ps m.rs)))=>rb_pose (rMany_has h _ (List.mem_of_getElem? (robsW_at (c:=c) hr hp))))
 have HLEN:=Lib.hid hlen
 have HE:=Lib.hid (fun (W:World) (sa:Option Addr) (sc:Nat) (l:List Sight) (h:Know w W S [rBlk wp [.pointer (some ⟨gp,0,none⟩),.pointer (some ⟨sp,0,none⟩),.slice ra ps.length rc,.int .i64 m.now,.slice sa l.length sc] 80,rGRID c gp,rSTK c sp m.s,rMany (robsW c ps m.rs),rOw 81 elPtr (.slice ra ps.length rc) ps,rOw 43 elSight (.slice sa l.length sc) l] [rRd elSight (.slice xa ys.length xc) ys])=>Turns.wld (m:={m with l:=l}) HLEN.out h.turns)
 simp only [rWd,wdCells] at hK
 obtain ⟨N,hN⟩: ∃ N,ys.length=N:=⟨_,rfl⟩
 rw [hN] at hK HE hl ⊢
 have HN:=Lib.hid hN
 have hps:ps.length<=64:=by omega
 have hi64:i<=64:=by omega
 clear hN hr hp hlen hi
 go_enter Tryz.func38,Tryz.ntmps38
 go_wp2_with (first
  |go_big_skip
  |((with_reducible refine wl ?_);refine ldQ ?_)
  |(with_reducible refine en ?_))
 go_loopg [7,10] N (fun k _ t10 wr=> ∃ (j:Nat) (sa:Option Addr) (sc nl:Nat) (l:List Sight),t10=.int .i64 j/\k=N - j/\j<=N/\Hid (l=m.l++(ys.take j).map (stampS m.now i r.pose))/\Hid (nl=l.length)/\nl<=100000000+j/\Know w wr S [rBlk wp [.pointer (some ⟨gp,0,none⟩),.pointer (some ⟨sp,0,none⟩),.slice ra ps.length rc,.int .i64 m.now,.slice sa nl sc] 80,rGRID c gp,rSTK c sp m.s,rMany (robsW c ps m.rs),rOw 81 elPtr (.slice ra ps.length rc) ps,rOw 43 elSight (.slice sa nl sc) l] [rRd elSight (.slice xa N xc) ys])
 case atStart=>exact ⟨0,sa,sc,m.l.length,m.l,rfl,rfl,by omega,by show _=_;simp,rfl,by omega,hK⟩
 case round=>
  clear hK
  obtain ⟨j,sa,sc,nl,l,rfl,rfl,hj,hl2,hnl,hl3,hK⟩:=hrel
  have hll:l.length<=100000100:=by have:=hnl.out;omega
  by_cases hlt:j<N
  · obtain ⟨y,hy⟩: ∃ y,ys[j]?=some y:=⟨_,List.getElem?_eq_getElem (by rw [HN.out];exact hlt)⟩
    have HY:=Lib.hid hy
    have dl:decide ((j:Int)<(N:Int))=true:=decide_eq_true (by omega)
    have HL:=Lib.hid (show l++[stampS m.now i r.pose y]=m.l++(ys.take (j+1)).map (stampS m.now i r.pose) by
     rw [hl2.out,List.take_add_one,hy,List.map_append,List.append_assoc]
     rfl)
    clear hy
    go_wp2_with (first
     |((with_reducible refine wt 12 ?_);(refine wl_ixK (i:=j) (u:=y) hK rfl rfl rfl rfl sightTy.und sightTy.size (xs:=ys) (hu:=HY) (h:=?_);intro b12 k12 hat12))
     |((with_reducible refine wt 13 ?_);refine wl_loadSA rfl rfl rfl (aggT (by decide)) (hat:=hat12) (h:=?_))
     |((with_reducible refine wl_at (o:=⟨some 7,.alloc _,_,_,_,_⟩) ?_)
       (refine wl_allocK (z:=.agg (Sight.cells Sight.zero).toArray) (zs:=Sight.cells Sight.zero) hK rfl rfl (by kernel_rfl) rfl ?_;clear hK;intro w7 b7 hK))
     |((with_reducible refine wl_at (o:=⟨none,.store 43 _ _,_,_,_,_⟩) ?_)
       (refine wl_storeWK (vs:=Sight.cells y) hK rfl rfl rfl rfl (aggS (by decide)) (elSight.one _) (h:=?_);clear hK;intro w' hK;simp only [z0,z1] at hK))
     |((with_reducible refine wp_region_stableK (id:=3) hK [3] [rBlk wp [.pointer (some ⟨gp,0,none⟩),.pointer (some ⟨sp,0,none⟩),.slice ra ps.length rc,.int .i64 m.now,.slice sa nl sc] 80] (by kernel_rfl) (by kernel_rfl) (by simp) (by kernel_rfl) ?_);clear hK;intro w' hK)
     |(with_reducible refine wpC_of ?_)
     |(with_reducible refine atEndC (hK.cls (by simp)) ?_)
     |((with_reducible refine wpC_end' ?_);refine wpC_nil ⟨by kernel_rfl,stays_loadK rfl rfl rfl rfl (scalT (by decide)) rfl (rest:=stays_nil),?_⟩)
     |((with_reducible refine tx 4 hK ?_);clear hK;intro w' hK)
     |((with_reducible refine wt 24 ?_);(refine wl_ixK (i:=i) (u:=p) hK rfl rfl rfl rfl ptrTy.und ptrTy.size (xs:=ps) (hu:=HP) (h:=?_);intro b24 k24 hat24))
     |((with_reducible refine wt 25 ?_);refine wl_loadA0 rfl rfl rfl (scalT (by decide)) (hat:=hat24) (h:=?_))
     |(go_at_call 42;(refine (hK.quiet (kPo.out _ hK.own)).mono ?_;clear hK;rintro e w' ⟨rfl,hK⟩))
     |((with_reducible refine wl_at (o:=⟨none,.store 3 (.tmp 27) _,_,_,_,_⟩) ?_);(refine wl_storeK (v:=.int .i64 m.now) hK rfl rfl rfl rfl (sizT (by decide)) rfl (hk:=by simp [Sight.cells,Pose.cells,Go.Sk.Move.cells]) (h:=?_);clear hK;intro w' hK;simp only [z0,z1] at hK))
     |((with_reducible refine wl_at (o:=⟨none,.store 3 (.tmp 28) _,_,_,_,_⟩) ?_);(refine wl_storeK (v:=.int .i64 i) hK rfl rfl rfl rfl (sizT (by decide)) rfl (hk:=by simp [Sight.cells,Pose.cells,Go.Sk.Move.cells]) (h:=?_);clear hK;intro w' hK;simp only [z0,z1] at hK))
     |((with_reducible refine wl_at (o:=⟨none,.store 36 (.tmp 29) _,_,_,_,_⟩) ?_)
       (refine wl_storePK (n:=3) (Pose.cells r.pose) (Sight.cells (stampS m.now i r.pose y)) hK rfl rfl rfl rfl (aggS (by decide)) (pose_one _) (hk:=by simp [Sight.cells,Pose.cells,Go.Sk.Move.cells]) (hc:=rfl) (h:=?_);clear hK;intro w' hK;simp only [z0,z1] at hK))
     |((with_reducible refine wt 36 ?_);(refine wl_buildK 43 elSight [stampS m.now i r.pose y] hK rfl rfl (fun W=>by kernel_rfl) rfl (by decide) ?_;clear hK;intro adb w36 hK))
     |((with_reducible refine wt 37 ?_)
       (refine wl_appK (xs:=l) (ys:=[stampS m.now i r.pose y]) hK sightTy rfl rfl rfl rfl hK.rd (by simp;unfold maxLen;omega) (by simp;omega) (h:=?_);clear hK;intro ad2 N2 cap2 w37 hN2 hK;replace hN2:=Lib.hid hN2;simp only [z0,z1] at hK))
     |((with_reducible refine wl_at (o:=⟨none,.store 40 (.tmp 39) _,_,_,_,_⟩) ?_);(refine wl_storeK (v:=.slice ad2 N2 cap2) hK rfl rfl rfl rfl (sizT (by decide)) rfl (hk:=by simp) (h:=?_);clear hK;intro w' hK;simp only [z0,z1] at hK))
     |go_big_skip
     |((with_reducible refine wl ?_);refine ldQ ?_)
     |(with_reducible refine en ?_))
    go_roundg (N - (j+1))
    case measure=>omega
    case rel=>exact ⟨j+1,ad2,cap2,N2,l++[stampS m.now i r.pose y],by go_num,rfl,by omega,HL,hN2,by have h1:=hN2.out;have h2:=hnl.out;rw [List.length_append] at h1;simp only [List.length_cons,List.length_nil] at h1;omega,hK.sub (.cons _ (.cons _ (List.Sublist.refl _)))⟩
  · have dl:decide ((j:Int)<(N:Int))=false:=decide_eq_false (by omega)
    have HL:=Lib.hid (show m.l++ys.map (stampS m.now i r.pose)=l by rw [hl2.out,List.take_of_length_le (by rw [HN.out];omega)])
    go_wp2_with (first
     |go_big_skip
     |((with_reducible refine wl ?_);refine ldQ ?_)
     |(with_reducible refine en ?_))
    first|(refine bodyPost_ret (results_none rfl _ _ _) rfl ?_)|(refine bodyPost_end (results_none rfl _ _ _) rfl ?_)
    refine ⟨rfl,?_⟩
    rw [HL.out]
    have hh:=hnl.out
    subst hh
    exact HE.out _ sa sc l hK
end Go.Proofs.YtngeeilkpnihmaaGreatDoor
namespace Go.Proofs.YtngeeilkpnihmaaGreatDoor
open Go Go.Sk Go.RowKit
set_option maxRecDepth 100000
theorem Know.shutW {c:ConfP} {wp gp sp:Nat} {ra:Option Addr} {rc:Nat} {ps:List Nat} {sa:Option Addr} {sc:Nat} {m:WM} {w0 w:World} {F:Nat->Prop} {L:List Res} (A:List Res) (hl:ps.length=m.rs.length) (h:Know w0 w F (A++rWd c wp gp sp ra rc ps sa sc m) L):Know w0 w F (A++[rWLD c wp m]) L:=h.ofTurns (by
 intro U hU
 obtain ⟨S,V,h1,h2,h3,h4⟩:=Sep.append.1 hU
 exact ⟨U,Sep.append.2 ⟨S,V,h1,Sep.one (rWLD_p.2 ⟨gp,sp,ra,rc,ps,sa,sc,hl,h2⟩),h3,h4⟩,fun _ h=>h⟩)
theorem Know.openW {c:ConfP} {wp:Nat} {m:WM} {w0 w:World} {F:Nat->Prop} {L:List Res} (A:List Res) (h:Know w0 w F (A++[rWLD c wp m]) L): ∃ gp sp ra rc ps sa sc,ps.length=m.rs.length/\Know w0 w F (A++rWd c wp gp sp ra rc ps sa sc m) L:=by
 obtain ⟨hm,U,h1,h2,h3⟩:=h
 obtain ⟨S,V,k1,k2,k3,k4⟩:=Sep.append.1 h1
 obtain ⟨gp,sp,ra,rc,ps,sa,sc,hl,k⟩:=rWLD_p.1 (Sep.of_one k2)
 exact ⟨gp,sp,ra,rc,ps,sa,sc,hl,hm,U,Sep.append.2 ⟨S,V,k1,k,k3,k4⟩,h2,h3⟩
theorem calls_sees {c:ConfP} {wp i:Nat} {m:WM} {r:RM} {e:TypeId} {xa:Option Addr} {xc:Nat} {ys:List Sight} {w0 w:World} {F:Nat->Prop} {A L:List Res} (h:Know w0 w F (A++[rWLD c wp m]) L) (hr:m.rs[i]?=some r) (hl:ys.length<=16) (hml:m.l.length<=100000000) (hrs:m.rs.length<=64) (hx:rOw e elSight (.slice xa ys.length xc) ys∈A):
 Calls Tryz.prog 38 #[.pointer (some ⟨wp,0,none⟩),.int .i64 i,.slice xa ys.length xc] w fun e w'=>e=.returned (.tuple #[])/\Know w0 w' F (A++[rWLD c wp {m with l:=m.l++ys.map (stampS m.now i r.pose)}]) L:=by
 have h1:Know w0 w F ([rWLD c wp m]++A) L:=h.perm List.perm_append_comm
 obtain ⟨S,hKS,back⟩:=Know.focusM h1
 refine (w_sees (xa:=xa) (xc:=xc) hr hl hml hrs (hKS.part (r:=rOw e elSight (.slice xa ys.length xc) ys) (r':=rRd elSight (.slice xa ys.length xc) ys) (by simp [hx]) (fun _ S hh=>⟨S,rOw_rd hh,fun _ h=>h⟩)) (by simp)).mono ?_
 rintro e w' ⟨rfl,hT⟩
 refine ⟨rfl,(back w' [rWLD c wp {m with l:=m.l++ys.map (stampS m.now i r.pose)}] ?_).perm List.perm_append_comm⟩
 obtain ⟨t1,S',t2,t3⟩:=hT
 exact ⟨t1,S',Sep.one t2,t3⟩
theorem Turns.one {r:Res} {w w':World} {S:Nat->Prop} (h:Turn r w w' S):Turns [r] w w' S:=by
 obtain ⟨t1,S',t2,t3⟩:=h
 exact ⟨t1,S',Sep.one t2,t3⟩
theorem robotV_at {ps:List Nat} {i p:Nat} (hp:ps[i]?=some p):robotV ps (i:Int)=.pointer (some ⟨p,0,none⟩):=by
 unfold robotV
 rw [if_pos (Int.natCast_nonneg i),Int.toNat_natCast,hp]
theorem robotV_not {ps:List Nat} {i:Int} (h:i<0\/(ps.length:Int)<=i):robotV ps i=.pointer none:=by
 unfold robotV
 split
 · rw [List.getElem?_eq_none (by omega)]
 · rfl
section
variable {c:ConfP} {wp gp sp i p:Nat} {ra:Option Addr} {rc:Nat} {ps:List Nat} {sa:Option Addr} {sc:Nat} {m:WM} {r:RM} {w0 w:World} {F:Nat->Prop} {A L:List Res}
theorem Know.robW (h:Know w0 w F (A++rWd c wp gp sp ra rc ps sa sc m) L) (hr:m.rs[i]?=some r) (hp:ps[i]?=some p):
 ∃ B,Know w0 w F (rROB c i p r::B) L/\ ∀ w' r' X,Know w0 w' F (X++rROB c i p r'::B) L->Know w0 w' F (X++A++rWd c wp gp sp ra rc ps sa sc {m with rs:=m.rs.set i r'}) L:=by
 have hi:i<m.rs.length:=(List.getElem?_eq_some_iff.1 hr).1
 obtain ⟨C1,hC1⟩: ∃ C1:List Res,C1=[rBlk wp (wdCells gp sp ra ps.length rc m.now sa m.l.length sc) 80,rGRID c gp,rSTK c sp m.s]:=⟨_,rfl⟩
 obtain ⟨C2,hC2⟩: ∃ C2:List Res,C2=[rOw 81 elPtr (.slice ra ps.length rc) ps,rOw 43 elSight (.slice sa m.l.length sc) m.l]:=⟨_,rfl⟩
 have e0: ∀ rs',rWd c wp gp sp ra rc ps sa sc {m with rs:=rs'}=C1++rMany (robsW c ps rs')::C2:=by
  intro rs'
  rw [hC1,hC2]
  rfl
 have e1:rWd c wp gp sp ra rc ps sa sc m=C1++rMany (robsW c ps m.rs)::C2:=e0 m.rs
 rw [e1] at h
 refine ⟨rMany ((robsW c ps m.rs).take i++(robsW c ps m.rs).drop (i+1))::((A++C1)++C2),?_,?_⟩
 · have h1:Know w0 w F (rMany (robsW c ps m.rs)::((A++C1)++C2)) L:=h.perm (by rw [<-List.append_assoc];exact List.perm_middle)
   exact h1.pickAt (robsW_at hr hp)
 · intro w' r' X h2
   have h3:Know w0 w' F (rROB c i p r'::rMany ((robsW c ps m.rs).take i++(robsW c ps m.rs).drop (i+1))::(X++((A++C1)++C2))) L:=h2.perm ((List.perm_middle).trans (List.Perm.cons _ List.perm_middle))
   have h4:=h3.putAt (by rw [robsW_len];exact hi)
   rw [robsW_set hi hp] at h4
   rw [e0]
   refine h4.perm ?_
   rw [show X++A++(C1++rMany (robsW c ps (m.rs.set i r'))::C2)=(X++(A++C1))++rMany (robsW c ps (m.rs.set i r'))::C2 by simp only [List.append_assoc],
    show X++((A++C1)++C2)=(X++(A++C1))++C2 by simp only [List.append_assoc]]
   exact List.perm_middle.symm
theorem turnsW {r':RM} {f:FuncId} {args:Array Value} {v:Value} (h:Know w0 w F (A++rWd c wp gp sp ra rc ps sa sc m) L) (hr:m.rs[i]?=some r) (hp:ps[i]?=some p)
 (hc: ∀ S,(rROB c i p r).p w S->Calls Tryz.prog f args w fun e w'=>e=.returned v/\Turn (rROB c i p r') w w' S):
 Calls Tryz.prog f args w fun e w'=>e=.returned v/\Know w0 w' F (A++rWd c wp gp sp ra rc ps sa sc {m with rs:=m.rs.set i r'}) L:=by
 obtain ⟨B,h1,back⟩:=Know.robW h hr hp
 refine (h1.callsI hc .head).mono ?_
 rintro e w' ⟨he,hK⟩
 exact ⟨he,back w' r' [] hK⟩
theorem hearsW {v:RM×List Tele×Int} {f:FuncId} {args:Array Value} (h:Know w0 w F (A++rWd c wp gp sp ra rc ps sa sc m) L) (hr:m.rs[i]?=some r) (hp:ps[i]?=some p) (hs:stepsR∈L)
 (hc: ∀ S,Know w w S [rROB c i p r] [stepsR]->Calls Tryz.prog f args w (hearEnd c i p v w S)):
 Calls Tryz.prog f args w fun e w'=> ∃ ad cap,e=.returned (.tuple #[.slice ad v.2.1.length cap,.int .i64 v.2.2])/\
  Know w0 w' F (rOw 58 elTele (.slice ad v.2.1.length cap) v.2.1::A++rWd c wp gp sp ra rc ps sa sc {m with rs:=m.rs.set i v.1}) L:=by
 obtain ⟨B,h1,back⟩:=Know.robW h hr hp
 refine (Know.hears h1 .head hs hc).mono ?_
 rintro e w' ⟨ad,cap,rfl,hK⟩
 exact ⟨ad,cap,rfl,back w' v.1 [rOw 58 elTele (.slice ad v.2.1.length cap) v.2.1] hK⟩
theorem Has.robW (h:Has w (rMany (robsW c ps m.rs))) (hr:m.rs[i]?=some r) (hp:ps[i]?=some p):Has w (rROB c i p r):=rMany_has h _ (List.mem_of_getElem? (robsW_at hr hp))
end
end Go.Proofs.YtngeeilkpnihmaaGreatDoor
