/- Texts of mine that belong together: Dw1, Dw2, Dw3, Dw4, Dw5. -/
import Derived.Test.YtngeeilkpnihmaaGreatDoorWdAZ
import Derived.Test.YtngeeilkpnihmaaGreatDoorDrBZ
import Derived.Test.YtngeeilkpnihmaaGreatDoorR8fZ
set_option linter.all false
namespace Go.Proofs.YtngeeilkpnihmaaGreatDoor
open Go Go.Sk Go.RowKit
set_option maxRecDepth 100000
def WM.hearD (c:ConfP) (w:WM) (t:Tele):WM×List Tele:=
 if 0<=t.robot then
  match w.rs[t.robot.toNat]? with
  |some r=>(({w with rs:=w.rs.set t.robot.toNat (r.hearD c (kinOf c) t.robot t).1}:WM).see t.robot.toNat (r.hearD c (kinOf c) t.robot t).1.pose (heardS (r.hearD c (kinOf c) t.robot t).2.2 (r.hearD c (kinOf c) t.robot t).1.now),(r.hearD c (kinOf c) t.robot t).2.1)
  |none=>(w,[])
 else (w,[])
def robsD (c:ConfV) (ps:List Nat) (rs:List RM):List Res:=(List.range rs.length).map fun (i:Nat)=>rDR c (i:Int) (ps.getD i 0) (rs.getD i (RM.start poseO))
def ddCells (c:ConfV) (sp:Nat) (ra:Option Addr) (n rc:Nat) (now:Int) (sa:Option Addr) (k sc:Nat):List Value:=c.cells++[.slice ra n rc,.pointer (some ⟨sp,0,none⟩),.int .i64 now,.slice sa k sc]
def rDd (c:ConfV) (wp sp:Nat) (ra:Option Addr) (rc:Nat) (ps:List Nat) (sa:Option Addr) (sc:Nat) (m:WM):List Res:=
 [rBlk wp (ddCells c sp ra ps.length rc m.now sa m.l.length sc) 110,rREF c sp m.s,rMany (robsD c ps m.rs),rOw 111 elPtr (.slice ra ps.length rc) ps,rOw 43 elSight (.slice sa m.l.length sc) m.l]
@[irreducible] def rDW (c:ConfV) (wp:Nat) (m:WM):Res where
  p w S:= ∃ sp ra rc ps sa sc,ps.length=m.rs.length/\Sep w (rDd c wp sp ra rc ps sa sc m) S
  loc:=by rintro w w' S ⟨a,d,e,f,g,h,h1,h2⟩ he;exact ⟨a,d,e,f,g,h,h1,h2.loc he⟩
  lt:=by rintro w S ⟨_,_,_,_,_,_,_,h⟩;exact h.lt
theorem rDW_p {c:ConfV} {wp:Nat} {m:WM} {w:World} {S:Nat->Prop}:(rDW c wp m).p w S ↔ ∃ sp ra rc ps sa sc,ps.length=m.rs.length/\Sep w (rDd c wp sp ra rc ps sa sc m) S:=by unfold rDW;exact Iff.rfl
theorem Know.dwd {c:ConfV} {wp:Nat} {m:WM} {w:World} {S:Nat->Prop} {L:List Res} (h:Know w w S [rDW c wp m] L): ∃ sp ra rc ps sa sc,ps.length=m.rs.length/\Know w w S (rDd c wp sp ra rc ps sa sc m) L:=by
 obtain ⟨hm,U,⟨S1,V,h1,h2,h3,h4⟩,h5,h6⟩:=h
 obtain ⟨sp,ra,rc,ps,sa,sc,hl,k⟩:=rDW_p.1 h1
 have hU: ∀ b,U b ↔ S1 b:=fun b=>(h4 b).trans ⟨fun h=>h.resolve_right (h2 b),.inl⟩
 exact ⟨sp,ra,rc,ps,sa,sc,hl,hm,S1,k,fun b hb=>h5 b ((hU b).2 hb),fun r hr=>by
  obtain ⟨T,i1,i2⟩:=h6 r hr
  exact ⟨T,i1,fun b hb hs=>i2 b hb ((hU b).2 hs)⟩⟩
theorem Turns.dwd {c:ConfV} {wp sp:Nat} {ra:Option Addr} {rc:Nat} {ps:List Nat} {sa:Option Addr} {sc:Nat} {m:WM} {w w':World} {S:Nat->Prop} (hl:ps.length=m.rs.length) (h:Turns (rDd c wp sp ra rc ps sa sc m) w w' S):Turn (rDW c wp m) w w' S:=by
 obtain ⟨h1,S',h2,h3⟩:=h
 exact ⟨h1,S',rDW_p.2 ⟨sp,ra,rc,ps,sa,sc,hl,h2⟩,h3⟩
theorem robsD_at {c:ConfV} {ps:List Nat} {rs:List RM} {i p:Nat} {r:RM} (hr:rs[i]?=some r) (hp:ps[i]?=some p):(robsD c ps rs)[i]?=some (rDR c i p r):=by
 have h1:i<rs.length:=(List.getElem?_eq_some_iff.1 hr).1
 unfold robsD
 rw [List.getElem?_map,List.getElem?_range h1,Option.map_some,List.getD_eq_getElem?_getD,List.getD_eq_getElem?_getD,hr,hp]
 rfl
theorem robsD_set {c:ConfV} {ps:List Nat} {rs:List RM} {i p:Nat} {r:RM} (hi:i<rs.length) (hp:ps[i]?=some p):(robsD c ps rs).set i (rDR c i p r)=robsD c ps (rs.set i r):=by
 apply List.ext_getElem?
 intro j
 unfold robsD
 rw [List.getElem?_set,List.length_map,List.length_range,List.length_set]
 by_cases hj:i=j
 · subst hj
   rw [if_pos rfl,if_pos hi,List.getElem?_map,List.getElem?_range hi,Option.map_some,List.getD_eq_getElem?_getD,List.getD_eq_getElem?_getD,hp,List.getElem?_set_self hi]
   rfl
 · rw [if_neg hj,List.getElem?_map,List.getElem?_map]
   cases hx:(List.range rs.length)[j]? with
   |none=>rfl
   |some y=>
    have hy:y=j:=by
     have h2:=List.getElem?_eq_some_iff.1 hx
     obtain ⟨h3,h4⟩:=h2
     simpa using h4.symm
    subst hy
    rw [Option.map_some,Option.map_some,List.getD_eq_getElem?_getD (l:=rs.set i r),List.getElem?_set_ne hj,<-List.getD_eq_getElem?_getD]
theorem robsD_len (c:ConfV) (ps:List Nat) (rs:List RM):(robsD c ps rs).length=rs.length:=by unfold robsD;rw [List.length_map,List.length_range]
end Go.Proofs.YtngeeilkpnihmaaGreatDoor
namespace Go.Proofs.YtngeeilkpnihmaaGreatDoor
open Go Go.Sk Go.RowKit
set_option maxRecDepth 100000
theorem Know.shutD {c:ConfV} {wp sp:Nat} {ra:Option Addr} {rc:Nat} {ps:List Nat} {sa:Option Addr} {sc:Nat} {m:WM} {w0 w:World} {F:Nat->Prop} {L:List Res} (A:List Res) (hl:ps.length=m.rs.length) (h:Know w0 w F (A++rDd c wp sp ra rc ps sa sc m) L):Know w0 w F (A++[rDW c wp m]) L:=h.ofTurns (by
 intro U hU
 obtain ⟨S,V,h1,h2,h3,h4⟩:=Sep.append.1 hU
 exact ⟨U,Sep.append.2 ⟨S,V,h1,Sep.one (rDW_p.2 ⟨sp,ra,rc,ps,sa,sc,hl,h2⟩),h3,h4⟩,fun _ h=>h⟩)
theorem Know.openD {c:ConfV} {wp:Nat} {m:WM} {w0 w:World} {F:Nat->Prop} {L:List Res} (A:List Res) (h:Know w0 w F (A++[rDW c wp m]) L): ∃ sp ra rc ps sa sc,ps.length=m.rs.length/\Know w0 w F (A++rDd c wp sp ra rc ps sa sc m) L:=by
 obtain ⟨hm,U,h1,h2,h3⟩:=h
 obtain ⟨S,V,k1,k2,k3,k4⟩:=Sep.append.1 h1
 obtain ⟨sp,ra,rc,ps,sa,sc,hl,k⟩:=rDW_p.1 (Sep.of_one k2)
 exact ⟨sp,ra,rc,ps,sa,sc,hl,hm,U,Sep.append.2 ⟨S,V,k1,k,k3,k4⟩,h2,h3⟩
theorem Know.hearsR {c:ConfV} {i:Int} {q k:Nat} {r:RM} {v:RM×List Tele×Int} {f:FuncId} {args:Array Value} {w0 w:World} {F:Nat->Prop} {M L:List Res} (h:Know w0 w F M L) (hi:Ix M (rDR c i q r) k) (hs:rConf c∈L)
 (hc: ∀ S,Know w w S [rDR c i q r] [rConf c]->Calls Tryz.prog f args w (drEnd c i q v w S)):Calls Tryz.prog f args w fun e w'=> ∃ ad cap,e=.returned (.tuple #[.slice ad v.2.1.length cap,.int .i64 v.2.2])/\
   Know w0 w' F (rOw 58 elTele (.slice ad v.2.1.length cap) v.2.1::M.set k (rDR c i q v.1)) L:=by
 obtain ⟨A,B,rfl,hset⟩:=hi.hole
 have h1:Know w0 w F ([rDR c i q r]++(A++B)) L:=h.perm List.perm_middle
 obtain ⟨S1,hKS,back⟩:=Know.focus h1
 refine (hc S1 (hKS.subL (by simpa using hs))).mono ?_
 rintro e w' ⟨ad,cap,rfl,hT⟩
 refine ⟨ad,cap,rfl,?_⟩
 rw [hset]
 exact (back _ _ hT).perm (List.Perm.cons _ (show (rDR c i q v.1::(A++B)).Perm (A++rDR c i q v.1::B) from List.perm_middle.symm))
section
variable {c:ConfV} {wp sp i p:Nat} {ra:Option Addr} {rc:Nat} {ps:List Nat} {sa:Option Addr} {sc:Nat} {m:WM} {r:RM} {w0 w:World} {F:Nat->Prop} {A L:List Res}
theorem Know.robD (h:Know w0 w F (A++rDd c wp sp ra rc ps sa sc m) L) (hr:m.rs[i]?=some r) (hp:ps[i]?=some p):
 ∃ B,Know w0 w F (rDR c i p r::B) L/\ ∀ w' r' X,Know w0 w' F (X++rDR c i p r'::B) L->Know w0 w' F (X++A++rDd c wp sp ra rc ps sa sc {m with rs:=m.rs.set i r'}) L:=by
 have hi:i<m.rs.length:=(List.getElem?_eq_some_iff.1 hr).1
 obtain ⟨C1,hC1⟩: ∃ C1:List Res,C1=[rBlk wp (ddCells c sp ra ps.length rc m.now sa m.l.length sc) 110,rREF c sp m.s]:=⟨_,rfl⟩
 obtain ⟨C2,hC2⟩: ∃ C2:List Res,C2=[rOw 111 elPtr (.slice ra ps.length rc) ps,rOw 43 elSight (.slice sa m.l.length sc) m.l]:=⟨_,rfl⟩
 have e0: ∀ rs',rDd c wp sp ra rc ps sa sc {m with rs:=rs'}=C1++rMany (robsD c ps rs')::C2:=by
  intro rs'
  rw [hC1,hC2]
  rfl
 have e1:rDd c wp sp ra rc ps sa sc m=C1++rMany (robsD c ps m.rs)::C2:=e0 m.rs
 rw [e1] at h
 refine ⟨rMany ((robsD c ps m.rs).take i++(robsD c ps m.rs).drop (i+1))::((A++C1)++C2),?_,?_⟩
 · have h1:Know w0 w F (rMany (robsD c ps m.rs)::((A++C1)++C2)) L:=h.perm (by rw [<-List.append_assoc];exact List.perm_middle)
   exact h1.pickAt (robsD_at hr hp)
 · intro w' r' X h2
   have h3:Know w0 w' F (rDR c i p r'::rMany ((robsD c ps m.rs).take i++(robsD c ps m.rs).drop (i+1))::(X++((A++C1)++C2))) L:=h2.perm ((List.perm_middle).trans (List.Perm.cons _ List.perm_middle))
   have h4:=h3.putAt (by rw [robsD_len];exact hi)
   rw [robsD_set hi hp] at h4
   rw [e0]
   refine h4.perm ?_
   rw [show X++A++(C1++rMany (robsD c ps (m.rs.set i r'))::C2)=(X++(A++C1))++rMany (robsD c ps (m.rs.set i r'))::C2 by simp only [List.append_assoc],
    show X++((A++C1)++C2)=(X++(A++C1))++C2 by simp only [List.append_assoc]]
   exact List.perm_middle.symm
theorem turnsD {r':RM} {f:FuncId} {args:Array Value} {v:Value} (h:Know w0 w F (A++rDd c wp sp ra rc ps sa sc m) L) (hr:m.rs[i]?=some r) (hp:ps[i]?=some p)
 (hc: ∀ S,(rDR c i p r).p w S->Calls Tryz.prog f args w fun e w'=>e=.returned v/\Turn (rDR c i p r') w w' S):
 Calls Tryz.prog f args w fun e w'=>e=.returned v/\Know w0 w' F (A++rDd c wp sp ra rc ps sa sc {m with rs:=m.rs.set i r'}) L:=by
 obtain ⟨B,h1,back⟩:=Know.robD h hr hp
 refine (h1.callsI hc .head).mono ?_
 rintro e w' ⟨he,hK⟩
 exact ⟨he,back w' r' [] hK⟩
theorem hearsDW {v:RM×List Tele×Int} {f:FuncId} {args:Array Value} (h:Know w0 w F (A++rDd c wp sp ra rc ps sa sc m) L) (hr:m.rs[i]?=some r) (hp:ps[i]?=some p) (hs:rConf c∈L)
 (hc: ∀ S,Know w w S [rDR c i p r] [rConf c]->Calls Tryz.prog f args w (drEnd c i p v w S)):
 Calls Tryz.prog f args w fun e w'=> ∃ ad cap,e=.returned (.tuple #[.slice ad v.2.1.length cap,.int .i64 v.2.2])/\
  Know w0 w' F (rOw 58 elTele (.slice ad v.2.1.length cap) v.2.1::A++rDd c wp sp ra rc ps sa sc {m with rs:=m.rs.set i v.1}) L:=by
 obtain ⟨B,h1,back⟩:=Know.robD h hr hp
 refine (Know.hearsR h1 .head hs hc).mono ?_
 rintro e w' ⟨ad,cap,rfl,hK⟩
 exact ⟨ad,cap,rfl,back w' v.1 [rOw 58 elTele (.slice ad v.2.1.length cap) v.2.1] hK⟩
theorem Has.robD (h:Has w (rMany (robsD c ps m.rs))) (hr:m.rs[i]?=some r) (hp:ps[i]?=some p):Has w (rDR c i p r):=rMany_has h _ (List.mem_of_getElem? (robsD_at hr hp))
end
end Go.Proofs.YtngeeilkpnihmaaGreatDoor
namespace Go.Proofs.YtngeeilkpnihmaaGreatDoor
open Go Go.Sk Go.RowKit
set_option maxRecDepth 100000
attribute [local irreducible] wpList Code.wp Calls
theorem al_bs {P:Program} {ops:Array Oper} {Q:Exit->Act->World->Prop} {o:Oper} {rest:List Oper} {n d:Nat} {l:List (Nat×Value)} {ds:List Deferred} {w w0:World} {F:Nat->Prop} {M L:List Res} {α:Type} {t:TypeId} {len:Nat} {parts:Array (Nat×Operand)} (e:TypeId) (E:El α) (xs:List α) (hK:Know w0 w F M L) (ho:o.op=.buildSlice t len parts) (hd:o.dst=some d) (hw:wantedL ops n l o=some true)
 (hr: ∀ W:World,(Instr.buildSlice t len (parts.map fun (i,x)=>(i,ev n l x))).run P W=.ok (.slice (some ⟨W.heap.size,0,none⟩) len len) (W.alloc (.cells (flat E.cells xs).toArray e)))
 (hn:len=xs.length) (hl:len<=maxLen)
 (h: ∀ ad w',Know w0 w' F (rOw e E (.slice ad len len) xs::M) L->wpList P ops Q rest (alAct n ((d,.slice ad len len)::l) ds) w'):wpList P ops Q (o::rest) (alAct n l ds) w:=
 wl_buildK e E xs hK ho (wanted_of hw) (by rw [ev_eq];exact hr) hn hl fun ad w' hk=>by rw [hd,al_put];exact h ad w' hk
theorem Has.drPose {c:ConfV} {i:Int} {q:Nat} {r:RM} {w:World} (h:Has w (rDR c i q r)):At w q 17 r.pose.cells:=by
 obtain ⟨x,h⟩:=Has.dr h
 exact part_at h.blk (by unfold drL;cases r.under<;>rfl)
theorem dw_see {c:ConfV} {wp i:Nat} {kind bin:Int} {mv:Go.Sk.Move} {m:WM} {r:RM} {w:World} {S:Nat->Prop} {L:List Res} (hr:m.rs[i]?=some r) (hml:m.l.length<=100000000) (h:Know w w S [rDW c wp m] L):
 Calls Tryz.prog 76 #[.pointer (some ⟨wp,0,none⟩),.int .i64 kind,.int .i64 (i:Int),.int .i64 bin,.agg mv.cells.toArray] w fun e w'=>e=.returned (.tuple #[])/\Turn (rDW c wp {m with l:=m.l++[⟨kind,m.now,i,bin,r.pose,mv⟩]}) w w' S:=by
 obtain ⟨sp,ra,rc,ps,sa,sc,hlen,hK⟩:=Know.dwd h
 clear h
 have hi:i<m.rs.length:=(List.getElem?_eq_some_iff.1 hr).1
 obtain ⟨p,hp⟩: ∃ p,ps[i]?=some p:=⟨_,List.getElem?_eq_getElem (by rw [hlen];exact hi)⟩
 have HP:=Lib.hid hp
 have kP:=Lib.hid (fun (W:World) (h:Has W (rMany (robsD c ps m.rs)))=>Has.drPose (Has.robD h hr hp))
 have HE:=Lib.hid (fun (W:World) (sa:Option Addr) (N sc:Nat) (l:List Sight) (hN:N=l.length) (h:Know w W S [rBlk wp (ddCells c sp ra ps.length rc m.now sa N sc) 110,rREF c sp m.s,rMany (robsD c ps m.rs),rOw 111 elPtr (.slice ra ps.length rc) ps,rOw 43 elSight (.slice sa N sc) l] L)=>show Turn (rDW c wp {m with l:=l}) w W S from Turns.dwd (sp:=sp) (ra:=ra) (rc:=rc) (sa:=sa) (sc:=sc) (m:={m with l:=l}) hlen (by subst hN;exact h.turns))
 clear hr hp hlen hi
 obtain ⟨⟨⟨px,py⟩,pd⟩,load,epoch,num,under,stopping,delay⟩:=r
 obtain ⟨mk,md,mn,⟨⟨sx,sy⟩,sd⟩,⟨⟨dx,dy⟩,dd⟩,ma,me⟩:=mv
 generalize hps:ps.length=np at hK HE
 generalize hnl:m.l.length=nl at hK
 simp only [rDd,ddCells,ConfV.cells,Pose.cells,Cell.cells,Go.Sk.Move.cells,List.cons_append,List.nil_append] at hK HE kP ⊢
 rw [hps,hnl] at hK
 have HN:=Lib.hid hnl
 clear hps hnl
 refine calls_al _ Tryz.func76 rfl Tryz.ntmps76 (Nat.le_of_ble_eq_true rfl) ?_
 simp only [parL,Nat.reduceAdd]
 repeat' (first
  |((with_reducible refine tx 1 hK ?_);clear hK;intro w' hK)
  |((with_reducible refine wt 27 ?_);(refine al_ix (i:=i) (u:=p) (xs:=ps) (E:=elPtr) hK rfl rfl rfl rfl rfl (by left;repeat (first|exact MemS.ow|apply MemS.tail)) (sizT (by decide)) HP.out ?_))
  |((with_reducible refine wt 31 ?_);(refine al_loadSA rfl rfl rfl rfl (aggT (by decide)) (kP.out _ hK.own) rfl ?_))
  |((with_reducible refine wt 34 ?_);(refine al_bs 43 elSight [(⟨kind,m.now,i,bin,⟨⟨px,py⟩,pd⟩,⟨mk,md,mn,⟨⟨sx,sy⟩,sd⟩,⟨⟨dx,dy⟩,dd⟩,ma,me⟩⟩:Sight)] hK rfl rfl rfl (fun W=>by kernel_rfl) rfl (by decide) ?_;clear hK;intro adb w34 hK))
  |((with_reducible refine wt 35 ?_);(refine al_app (xs:=m.l) (ys:=[(⟨kind,m.now,i,bin,⟨⟨px,py⟩,pd⟩,⟨mk,md,mn,⟨⟨sx,sy⟩,sd⟩,⟨⟨dx,dy⟩,dd⟩,ma,me⟩⟩:Sight)]) hK sightTy rfl rfl rfl rfl rfl hK.rd (by simp;unfold maxLen;omega) (by simp;omega) (h:=?_);clear hK;intro ad2 N2 cap2 w35 hN2 hK;simp only [z0,z1] at hK))
  |(refine sl ?_)
  |((with_reducible refine wl_at ?_);first|refine al ?_|refine Held.out ?_)
  |(with_reducible refine Two.mk (fun h=>?_) (fun h=>?_)<;>go_prune)
  |(with_reducible refine en ?_)
  |(with_reducible refine ret_at ?_)
  |(with_reducible refine fun (w':World) (b:Nat) hK'=>?_;clear hK;have hK:=hK';clear hK')
  |(with_reducible refine fun (w':World) hK'=>?_;clear hK;have hK:=hK';clear hK')
  |(with_reducible refine fun (b k:Nat) hat=>?_))
 all_goals
  first|refine al_ret0 rfl ⟨rfl,?_⟩|refine al_end0 rfl ⟨rfl,?_⟩
  exact HE.out _ _ _ _ _ hN2 (hK.sub (.cons _ (.cons _ (List.Sublist.refl _))))
end Go.Proofs.YtngeeilkpnihmaaGreatDoor
namespace Go.Proofs.YtngeeilkpnihmaaGreatDoor
open Go Go.Sk Go.RowKit
set_option maxRecDepth 100000
attribute [local irreducible] wpList Code.wp Calls
theorem Has.drNow {c:ConfV} {i:Int} {q:Nat} {r:RM} {w:World} (h:Has w (rDR c i q r)):At w q 24 r.now.cells:=by
 obtain ⟨x,h⟩:=Has.dr h
 exact part_at h.blk (by unfold drL RM.now;cases r.under<;>rfl)
theorem calls_seeD {c:ConfV} {wp i:Nat} {kind bin:Int} {mv:Go.Sk.Move} {m:WM} {r:RM} {w0 w:World} {F:Nat->Prop} {A L:List Res} (hr:m.rs[i]?=some r) (hml:m.l.length<=100000000) (h:Know w0 w F (A++[rDW c wp m]) L):
 Calls Tryz.prog 76 #[.pointer (some ⟨wp,0,none⟩),.int .i64 kind,.int .i64 (i:Int),.int .i64 bin,.agg mv.cells.toArray] w fun e w'=>e=.returned (.tuple #[])/\Know w0 w' F (A++[rDW c wp {m with l:=m.l++[⟨kind,m.now,i,bin,r.pose,mv⟩]}]) L:=by
 have h1:Know w0 w F (rDW c wp m::A) L:=h.perm (List.perm_append_comm (l₁:=A) (l₂:=[rDW c wp m]))
 refine (h1.callsI (fun S hS=>dw_see (mv:=mv) (L:=[]) hr hml (Know.start1 hS (by simp))) .head).mono ?_
 rintro e w' ⟨he,hK⟩
 exact ⟨he,hK.perm (List.perm_append_comm (l₁:=[rDW c wp {m with l:=m.l++[⟨kind,m.now,i,bin,r.pose,mv⟩]}]) (l₂:=A))⟩
set_option maxHeartbeats 1000000 in
theorem dw_hear {c:ConfV} {wp:Nat} {m:WM} {n:Int} {t:Tele} {w:World} {S:Nat->Prop} (hok: ∀ (i:Nat) r,m.rs[i]?=some r->RMOk c.p r n) (hn:n<=1000000000) (hz:Sized c) (hko:(kinOf c.p).Ok) (hml:m.l.length<=90000000) (hrs:m.rs.length<=64) (h:Know w w S [rDW c wp m] [rConf c]):
 Calls Tryz.prog 56 #[.pointer (some ⟨wp,0,none⟩),.agg t.cells.toArray] w fun e w'=> ∃ ad cap,e=.returned (.slice ad (m.hearD c.p t).2.length cap)/\Turns [rOw 58 elTele (.slice ad (m.hearD c.p t).2.length cap) (m.hearD c.p t).2,rDW c wp (m.hearD c.p t).1] w w' S:=by
 obtain ⟨sp,ra,rc,ps,sa,sc,hlen,hK⟩:=Know.openD [] h
 clear h
 by_cases hin:0<=t.robot/\t.robot<m.rs.length
 · obtain ⟨hin0,hin1⟩:=hin
   obtain ⟨i,hi⟩: ∃ i:Nat,t.robot=(i:Int):=⟨t.robot.toNat,by omega⟩
   have hil:i<m.rs.length:=by omega
   obtain ⟨r,hr⟩: ∃ r,m.rs[i]?=some r:=⟨_,List.getElem?_eq_getElem hil⟩
   obtain ⟨p,hp⟩: ∃ p,ps[i]?=some p:=⟨_,List.getElem?_eq_getElem (by rw [hlen];exact hil)⟩
   have kH:=fun (W:World) (A:List Res) (h:Know w W S (A++rDd c wp sp ra rc ps sa sc m) [rConf c])=>hearsDW h hr hp (by simp) (fun S hS=>dr_hear (t:=t) (hok i r hr) hn hz hko hS)
   have hv:m.hearD c.p t=((({m with rs:=m.rs.set i (r.hearD c.p (kinOf c.p) i t).1}:WM).see i (r.hearD c.p (kinOf c.p) i t).1.pose (heardS (r.hearD c.p (kinOf c.p) i t).2.2 (r.hearD c.p (kinOf c.p) i t).1.now),(r.hearD c.p (kinOf c.p) i t).2.1)):=by
    unfold WM.hearD
    rw [if_pos hin0,show t.robot.toNat=i by omega,hr,hi]
   rw [hv]
   generalize r.hearD c.p (kinOf c.p) i t=u at kH ⊢
   obtain ⟨r',l,how⟩:=u
   simp only at kH ⊢
   have hr1:({m with rs:=m.rs.set i r'}:WM).rs[i]?=some r':=List.getElem?_set_self hil
   have hlen1:ps.length=({m with rs:=m.rs.set i r'}:WM).rs.length:=by simp [hlen]
   have kN:=Lib.hid (fun (W:World) (h:Has W (rMany (robsD c ps (m.rs.set i r'))))=>Has.drNow (Has.robD (m:={m with rs:=m.rs.set i r'}) h hr1 hp))
   have kE:=Lib.hid (fun (W:World) (A:List Res) (kind:Int) (mv:Go.Sk.Move) (h:Know w W S (A++rDd c wp sp ra rc ps sa sc {m with rs:=m.rs.set i r'}) [rConf c])=>calls_seeD (kind:=kind) (bin:=0) (mv:=mv) hr1 (by show m.l.length<=_;omega) (Know.shutD A hlen1 h))
   have kZ:=Lib.hid (fun (W:World) (A:List Res) (h:Know w W S (A++rDd c wp sp ra rc ps sa sc {m with rs:=m.rs.set i r'}) [rConf c])=>Know.shutD A hlen1 h)
   have KH:=Lib.hid kH
   have HP:=Lib.hid hp
   have e1:how=1->({m with rs:=m.rs.set i r'}:WM).see i r'.pose (heardS how r'.now)={m with rs:=m.rs.set i r',l:=m.l++[⟨1,m.now,i,0,r'.pose,r'.now⟩]}:=by rintro rfl;rfl
   have e2:how=2->({m with rs:=m.rs.set i r'}:WM).see i r'.pose (heardS how r'.now)={m with rs:=m.rs.set i r',l:=m.l++[⟨7,m.now,i,0,r'.pose,mvZ⟩]}:=by rintro rfl;rfl
   have e3:how=3->({m with rs:=m.rs.set i r'}:WM).see i r'.pose (heardS how r'.now)={m with rs:=m.rs.set i r',l:=m.l++[⟨3,m.now,i,0,r'.pose,mvZ⟩]}:=by rintro rfl;rfl
   have e0:how≠1/\how≠2/\how≠3->({m with rs:=m.rs.set i r'}:WM).see i r'.pose (heardS how r'.now)={m with rs:=m.rs.set i r'}:=by
    rintro ⟨h1,h2,h3⟩
    unfold heardS WM.see
    rw [if_neg h1,if_neg h2,if_neg h3]
    simp
   generalize ({m with rs:=m.rs.set i r'}:WM).see i r'.pose (heardS how r'.now)=X at e0 e1 e2 e3 ⊢
   replace e0:=Lib.hid e0
   replace e1:=Lib.hid e1
   replace e2:=Lib.hid e2
   replace e3:=Lib.hid e3
   have hpl:(i:Int)<ps.length:=by omega
   obtain ⟨tk,tr,te,tn,tm,tp,tl⟩:=t
   simp only at hi hin0 hin1
   subst hi
   clear kH hv hr hp hok hr1 hlen1 hlen hil hin0 hin1
   simp only [rDd,ddCells,ConfV.cells,Tele.cells,List.cons_append,List.nil_append] at hK KH ⊢
   refine calls_al _ Tryz.func56 rfl Tryz.ntmps56 (Nat.le_of_ble_eq_true rfl) ?_
   simp only [parL,Nat.reduceAdd]
   repeat' (first
    |((with_reducible refine tx 1 hK ?_);clear hK;intro w' hK)
    |((with_reducible refine tx 3 hK ?_);clear hK;intro w' hK)
    |((with_reducible refine tx 6 hK ?_);clear hK;intro w' hK)
    |((with_reducible refine wl_at (o:=⟨_,.indexAddr _ _ _,_,_,_,_⟩) ?_);(refine al_ix (i:=i) (u:=p) (xs:=ps) (E:=elPtr) hK rfl rfl rfl rfl rfl (by left;repeat (first|exact MemS.ow|apply MemS.tail)) (sizT (by decide)) HP.out ?_))
    |((with_reducible refine wt 49 ?_);(refine al_loadSA rfl rfl rfl rfl (aggT (by decide)) (kN.out _ hK.own) rfl ?_))
    |(go_at_call 75;(refine (KH.out _ [_] hK).mono ?_;clear hK;rintro e w' ⟨adt,cpt,rfl,hK⟩;simp only [rDd,ddCells,ConfV.cells,List.cons_append,List.nil_append] at hK))
    |(go_at_call 76;((first|refine (kE.out _ [_,_] _ r'.now hK).mono ?_|refine (kE.out _ [_,_] _ mvZ hK).mono ?_);clear hK;rintro e w' ⟨rfl,hK⟩;simp only [List.cons_append,List.nil_append] at hK))
    |(refine sl ?_)
    |((with_reducible refine wl_at ?_);first|refine al ?_|refine Held.out ?_)
    |(with_reducible refine Two.mk (fun h=>?_) (fun h=>?_)<;>go_prune)
    |(with_reducible refine en ?_)
    |(with_reducible refine ret_at ?_)
    |(with_reducible refine fun (w':World) (b:Nat) hK'=>?_;clear hK;have hK:=hK';clear hK')
    |(with_reducible refine fun (w':World) hK'=>?_;clear hK;have hK:=hK';clear hK')
    |(with_reducible refine fun (b k:Nat) hat=>?_))
   all_goals
    refine al_ret1 rfl Vis.sl ⟨adt,cpt,rfl,?_⟩
    first
     |(rw [e1.out (by omega)];exact (hK.sub (.cons_cons _ (.cons _ (.cons_cons _ .slnil)))).turns)
     |(rw [e2.out (by omega)];exact (hK.sub (.cons_cons _ (.cons _ (.cons_cons _ .slnil)))).turns)
     |(rw [e3.out (by omega)];exact (hK.sub (.cons_cons _ (.cons _ (.cons_cons _ .slnil)))).turns)
     |(rw [e0.out (by omega)];exact ((kZ.out _ [_,_] hK).sub (.cons_cons _ (.cons _ (.cons_cons _ .slnil)))).turns)
 · have hv:m.hearD c.p t=(m,[]):=by
    unfold WM.hearD
    split
    · rw [List.getElem?_eq_none (by omega)]
    · rfl
   rw [hv]
   have kZ:=Lib.hid (fun (W:World) (A:List Res) (h:Know w W S (A++rDd c wp sp ra rc ps sa sc m) [rConf c])=>Know.shutD A hlen h)
   have hpl: ¬ (0<=t.robot/\t.robot<ps.length):=by omega
   clear hv hok
   obtain ⟨tk,tr,te,tn,tm,tp,tl⟩:=t
   simp only at hpl
   simp only [rDd,ddCells,ConfV.cells,Tele.cells,List.cons_append,List.nil_append] at hK ⊢
   refine calls_al _ Tryz.func56 rfl Tryz.ntmps56 (Nat.le_of_ble_eq_true rfl) ?_
   simp only [parL,Nat.reduceAdd]
   repeat' (first
    |((with_reducible refine tx 1 hK ?_);clear hK;intro w' hK)
    |((with_reducible refine tx 3 hK ?_);clear hK;intro w' hK)
    |((with_reducible refine tx 6 hK ?_);clear hK;intro w' hK)
    |(refine sl ?_)
    |((with_reducible refine wl_at ?_);first|refine al ?_|refine Held.out ?_)
    |(with_reducible refine Two.mk (fun h=>?_) (fun h=>?_)<;>go_prune)
    |(with_reducible refine en ?_)
    |(with_reducible refine ret_at ?_)
    |(with_reducible refine fun (w':World) (b:Nat) hK'=>?_;clear hK;have hK:=hK';clear hK')
    |(with_reducible refine fun (w':World) hK'=>?_;clear hK;have hK:=hK';clear hK')
    |(with_reducible refine fun (b k:Nat) hat=>?_))
   all_goals first
    |(exfalso;omega)
    |(refine al_ret1 rfl Vis.sl ⟨none,0,rfl,?_⟩
      exact (((kZ.out _ [_] hK).sub (.cons _ (.cons_cons _ .slnil))).nil 58 elTele).turns)
end Go.Proofs.YtngeeilkpnihmaaGreatDoor
namespace Go.Proofs.YtngeeilkpnihmaaGreatDoor
open Go Go.Sk Go.RowKit
set_option maxRecDepth 100000
attribute [local irreducible] wpList Code.wp Calls
theorem dw_seeO {c:ConfV} {wp i sp:Nat} {ra sa:Option Addr} {rc sc:Nat} {ps:List Nat} {kind bin:Int} {mv:Go.Sk.Move} {m:WM} {r:RM} {p:Nat} {w:World} {S:Nat->Prop} {L:List Res} (hr:m.rs[i]?=some r) (hp:ps[i]?=some p) (hml:m.l.length<=100000000) (hK:Know w w S (rDd c wp sp ra rc ps sa sc m) L):
 Calls Tryz.prog 76 #[.pointer (some ⟨wp,0,none⟩),.int .i64 kind,.int .i64 (i:Int),.int .i64 bin,.agg mv.cells.toArray] w fun e w'=>e=.returned (.tuple #[])/\ ∃ sa' sc',Turns (rDd c wp sp ra rc ps sa' sc' {m with l:=m.l++[⟨kind,m.now,i,bin,r.pose,mv⟩]}) w w' S:=by
 have HP:=Lib.hid hp
 have kP:=Lib.hid (fun (W:World) (h:Has W (rMany (robsD c ps m.rs)))=>Has.drPose (Has.robD h hr hp))
 have HE:=Lib.hid (fun (W:World) (sa:Option Addr) (N sc:Nat) (l:List Sight) (hN:N=l.length) (h:Know w W S [rBlk wp (ddCells c sp ra ps.length rc m.now sa N sc) 110,rREF c sp m.s,rMany (robsD c ps m.rs),rOw 111 elPtr (.slice ra ps.length rc) ps,rOw 43 elSight (.slice sa N sc) l] L)=>show ∃ sa' sc',Turns (rDd c wp sp ra rc ps sa' sc' {m with l:=l}) w W S from ⟨sa,sc,by subst hN;exact h.turns⟩)
 clear hr hp
 obtain ⟨⟨⟨px,py⟩,pd⟩,load,epoch,num,under,stopping,delay⟩:=r
 obtain ⟨mk,md,mn,⟨⟨sx,sy⟩,sd⟩,⟨⟨dx,dy⟩,dd⟩,ma,me⟩:=mv
 generalize hps:ps.length=np at hK HE
 generalize hnl:m.l.length=nl at hK
 simp only [rDd,ddCells,ConfV.cells,Pose.cells,Cell.cells,Go.Sk.Move.cells,List.cons_append,List.nil_append] at hK HE kP ⊢
 rw [hps,hnl] at hK
 have HN:=Lib.hid hnl
 clear hps hnl
 refine calls_al _ Tryz.func76 rfl Tryz.ntmps76 (Nat.le_of_ble_eq_true rfl) ?_
 simp only [parL,Nat.reduceAdd]
 repeat' (first
  |((with_reducible refine tx 1 hK ?_);clear hK;intro w' hK)
  |((with_reducible refine wt 27 ?_);(refine al_ix (i:=i) (u:=p) (xs:=ps) (E:=elPtr) hK rfl rfl rfl rfl rfl (by left;repeat (first|exact MemS.ow|apply MemS.tail)) (sizT (by decide)) HP.out ?_))
  |((with_reducible refine wt 31 ?_);(refine al_loadSA rfl rfl rfl rfl (aggT (by decide)) (kP.out _ hK.own) rfl ?_))
  |((with_reducible refine wt 34 ?_);(refine al_bs 43 elSight [(⟨kind,m.now,i,bin,⟨⟨px,py⟩,pd⟩,⟨mk,md,mn,⟨⟨sx,sy⟩,sd⟩,⟨⟨dx,dy⟩,dd⟩,ma,me⟩⟩:Sight)] hK rfl rfl rfl (fun W=>by kernel_rfl) rfl (by decide) ?_;clear hK;intro adb w34 hK))
  |((with_reducible refine wt 35 ?_);(refine al_app (xs:=m.l) (ys:=[(⟨kind,m.now,i,bin,⟨⟨px,py⟩,pd⟩,⟨mk,md,mn,⟨⟨sx,sy⟩,sd⟩,⟨⟨dx,dy⟩,dd⟩,ma,me⟩⟩:Sight)]) hK sightTy rfl rfl rfl rfl rfl hK.rd (by simp;unfold maxLen;omega) (by simp;omega) (h:=?_);clear hK;intro ad2 N2 cap2 w35 hN2 hK;simp only [z0,z1] at hK))
  |(refine sl ?_)
  |((with_reducible refine wl_at ?_);first|refine al ?_|refine Held.out ?_)
  |(with_reducible refine Two.mk (fun h=>?_) (fun h=>?_)<;>go_prune)
  |(with_reducible refine en ?_)
  |(with_reducible refine ret_at ?_)
  |(with_reducible refine fun (w':World) (b:Nat) hK'=>?_;clear hK;have hK:=hK';clear hK')
  |(with_reducible refine fun (w':World) hK'=>?_;clear hK;have hK:=hK';clear hK')
  |(with_reducible refine fun (b k:Nat) hat=>?_))
 all_goals
  first|refine al_ret0 rfl ⟨rfl,?_⟩|refine al_end0 rfl ⟨rfl,?_⟩
  exact HE.out _ _ _ _ _ hN2 (hK.sub (.cons _ (.cons _ (List.Sublist.refl _))))
theorem calls_seeO {c:ConfV} {wp i sp:Nat} {ra sa:Option Addr} {rc sc:Nat} {ps:List Nat} {kind bin:Int} {mv:Go.Sk.Move} {m:WM} {r:RM} {p:Nat} {w0 w:World} {F:Nat->Prop} {A L:List Res} (hr:m.rs[i]?=some r) (hp:ps[i]?=some p) (hml:m.l.length<=100000000) (h:Know w0 w F (A++rDd c wp sp ra rc ps sa sc m) L):
 Calls Tryz.prog 76 #[.pointer (some ⟨wp,0,none⟩),.int .i64 kind,.int .i64 (i:Int),.int .i64 bin,.agg mv.cells.toArray] w fun e w'=>e=.returned (.tuple #[])/\ ∃ sa' sc',Know w0 w' F (A++rDd c wp sp ra rc ps sa' sc' {m with l:=m.l++[⟨kind,m.now,i,bin,r.pose,mv⟩]}) L:=by
 have h1:Know w0 w F (rDd c wp sp ra rc ps sa sc m++A) L:=h.perm List.perm_append_comm
 obtain ⟨S,hKS,back⟩:=Know.focusM h1
 refine (dw_seeO (mv:=mv) hr hp hml hKS).mono ?_
 rintro e w' ⟨he,sa',sc',hT⟩
 exact ⟨he,sa',sc',(back w' _ hT).perm List.perm_append_comm⟩
end Go.Proofs.YtngeeilkpnihmaaGreatDoor
