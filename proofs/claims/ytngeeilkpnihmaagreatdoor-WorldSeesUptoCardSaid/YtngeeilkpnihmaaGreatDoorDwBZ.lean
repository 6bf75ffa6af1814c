/- Texts of mine that belong together: Dw6, Dw7, Dw8. -/
import Derived.Test.YtngeeilkpnihmaaGreatDoorDwAZ
import Derived.Test.YtngeeilkpnihmaaGreatDoorR8cZ
import Derived.Test.YtngeeilkpnihmaaGreatDoorR8fZ
import Derived.Test.YtngeeilkpnihmaaGreatDoorDrAZ
import Derived.Test.YtngeeilkpnihmaaGreatDoorWd7Z
set_option linter.all false
namespace Go.Proofs.YtngeeilkpnihmaaGreatDoor
open Go Go.Sk Go.RowKit
set_option maxRecDepth 100000
attribute [local irreducible] wpList Code.wp Calls
theorem Know.drT {c:ConfV} {i:Int} {q:Nat} {r:RM} {w0 w:World} {F:Nat->Prop} {B L:List Res} (h:Know w0 w F (rDR c i q r::B) L): ∃ x,Know w0 w F (rBlk q (drL c i r x) 116::B) L:=by
 obtain ⟨hm,U,⟨S1,V,h1,h2,h3,h4⟩,h5,h6⟩:=h
 obtain ⟨x,k⟩:=rDR_p.1 h1
 exact ⟨x,hm,U,⟨S1,V,k,h2,h3,h4⟩,h5,h6⟩
theorem drL_carry {c:ConfV} {i v:Int} {r:RM} {x:Junk}:(drL c i r x).set 20 (.int .i64 v)=drL c i (r.carry v) x:=by
 unfold drL RM.carry
 cases r.under<;>rfl
theorem al_storeLoad {ops:Array Oper} {Q:Exit->Act->World->Prop} {o:Oper} {rest:List Oper} {n:Nat} {l:List (Nat×Value)} {ds:List Deferred} {w w0:World} {F:Nat->Prop} {A L:List Res} {c:ConfV} {wp sp i p:Nat} {ra sa:Option Addr} {rc sc:Nat} {ps:List Nat} {m:WM} {r:RM} {x y:Operand} (v:Int) (hr:m.rs[i]?=some r) (hp:ps[i]?=some p) (h:Know w0 w F (A++rDd c wp sp ra rc ps sa sc m) L)
 (ho:o.op=.store 3 x y) (hd:o.dst=none) (hw:wantedL ops n l o=some true) (hx:ev n l x=.pointer (some ⟨p,20,none⟩)) (hy:ev n l y=.int .i64 v)
 (hh: ∀ w',Know w0 w' F (A++rDd c wp sp ra rc ps sa sc {m with rs:=m.rs.set i (r.carry v)}) L->wpList Tryz.prog ops Q rest (alAct n l ds) w'):wpList Tryz.prog ops Q (o::rest) (alAct n l ds) w:=by
 obtain ⟨B,h1,back⟩:=Know.robD h hr hp
 obtain ⟨x,h2⟩:=Know.drT h1
 refine wl_storeK (i:=0) (v:=.int .i64 v) h2 ho (wanted_of hw) (by rw [ev_eq];exact hx) (by rw [ev_eq];exact hy) (sizT (by decide)) rfl .head (by unfold drL;cases r.under<;>(simp [ConfV.cells,Pose.cells,Cell.cells,Go.Sk.Move.cells,mvZ])) (h:=fun w' hk=>?_)
 rw [hd]
 refine hh w' ?_
 rw [List.set_cons_zero,drL_carry] at hk
 have h3:=hk.seen (r':=rDR c i p (r.carry v)) (fun _ _ hh=>rDR_p.2 ⟨x,hh⟩) .head
 exact back w' (r.carry v) [] h3
end Go.Proofs.YtngeeilkpnihmaaGreatDoor
namespace Go.Proofs.YtngeeilkpnihmaaGreatDoor
open Go Go.Sk Go.RowKit
set_option maxRecDepth 100000
attribute [local irreducible] wpList Code.wp Calls
set_option maxHeartbeats 1000000 in
theorem dw_bins {c:ConfV} {wp sp i p:Nat} {ra sa:Option Addr} {rc sc:Nat} {ps:List Nat} {m:WM} {r:RM} {mv:Go.Sk.Move} {w:World} {S:Nat->Prop} (hr:m.rs[i]?=some r) (hp:ps[i]?=some p) (hml:m.l.length<=90000000) (hz:Sized c) (hK:Know w w S (rDd c wp sp ra rc ps sa sc m) [rConf c]):
 Calls Tryz.prog 81 #[.pointer (some ⟨wp,0,none⟩),.int .i64 (i:Int),.agg mv.cells.toArray] w fun e w'=>e=.returned (.tuple #[])/\ ∃ sa' sc',Turns (rDd c wp sp ra rc ps sa' sc' (({m with s:=(hoistW c.p m.s i r mv.kind).1,rs:=m.rs.set i (hoistW c.p m.s i r mv.kind).2.1}:WM).see i r.pose (hoistW c.p m.s i r mv.kind).2.2)) w w' S:=by
 have hil:i<m.rs.length:=(List.getElem?_eq_some_iff.1 hr).1
 have hpl:i<ps.length:=(List.getElem?_eq_some_iff.1 hp).1
 have HP:=Lib.hid hp
 have HR:=Lib.hid hr
 have hl0:m.l.length<=100000000:=by omega
 have hl1: ∀ x:Sight,(m.l++[x]).length<=100000000:=fun x=>by rw [List.length_append];simp only [List.length_cons,List.length_nil];omega
 have hset:m.rs.set i r=m.rs:=by
  apply List.ext_getElem?
  intro j
  rw [List.getElem?_set]
  split
  · rename_i hj;subst hj;first|exact hr.symm|rw [if_pos hil,hr]
  · rfl
 have HS:=Lib.hid hset
 have kC:=Lib.hid (fun (W:World) (h:Has W (rMany (robsD c ps m.rs)))=>show At W p 17 (Cell.cells r.pose.at_) by
  obtain ⟨x,hx⟩:=Has.dr (Has.robD h hr hp)
  exact part_at hx.blk (by unfold drL;cases r.under<;>rfl))
 have kC2:=Lib.hid (fun (W:World) (v:Int) (h:Has W (rMany (robsD c ps (m.rs.set i (r.carry v)))))=>show At W p 17 (Cell.cells r.pose.at_) by
  obtain ⟨x,hx⟩:=Has.dr (Has.robD (m:={m with rs:=m.rs.set i (r.carry v)}) h (List.getElem?_set_self hil) hp)
  exact part_at hx.blk (by unfold drL RM.carry;cases r.under<;>rfl))
 have kE:=Lib.hid (fun (W:World) (A:List Res) (s':SM) (sa:Option Addr) (sc:Nat) (kind bin:Int) (h:Know w W S (A++rDd c wp sp ra rc ps sa sc ⟨s',m.rs,m.now,m.l⟩) [rConf c])=>calls_seeO (kind:=kind) (bin:=bin) (mv:=mvZ) (m:=⟨s',m.rs,m.now,m.l⟩) hr hp (by show m.l.length<=_;omega) h)
 have kF:=Lib.hid (fun (W:World) (A:List Res) (s':SM) (v:Int) (l':List Sight) (sa:Option Addr) (sc:Nat) (kind bin:Int) (hl:l'.length<=100000000) (h:Know w W S (A++rDd c wp sp ra rc ps sa sc {m with s:=s',rs:=m.rs.set i (r.carry v),l:=l'}) [rConf c])=>calls_seeO (kind:=kind) (bin:=bin) (mv:=mvZ) (m:={m with s:=s',rs:=m.rs.set i (r.carry v),l:=l'}) (List.getElem?_set_self hil) hp hl h)
 obtain ⟨mk,md,mn,⟨⟨sx,sy⟩,sd⟩,⟨⟨dx,dy⟩,dd⟩,ma,me⟩:=mv
 clear hset
 simp only [rDd,ddCells,ConfV.cells,Pose.cells,Cell.cells,Go.Sk.Move.cells,List.cons_append,List.nil_append] at hK ⊢
 refine calls_al _ Tryz.func81 rfl Tryz.ntmps81 (Nat.le_of_ble_eq_true rfl) ?_
 simp only [parL,Nat.reduceAdd]
 repeat' (first
  |((with_reducible refine tx 3 hK ?_);clear hK;intro w' hK)
  |((with_reducible refine tx 9 hK ?_);clear hK;intro w' hK)
  |((with_reducible refine tx 13 hK ?_);clear hK;intro w' hK)
  |((with_reducible refine wl_at (o:=⟨_,.indexAddr _ _ _,_,_,_,_⟩) ?_);(refine al_ix (i:=i) (u:=p) (xs:=ps) (E:=elPtr) hK rfl rfl rfl rfl rfl (by left;repeat (first|exact MemS.ow|apply MemS.tail)) (sizT (by decide)) HP.out ?_))
  |((with_reducible refine wt 30 ?_);(refine al_loadSA rfl rfl rfl rfl (aggT (by decide)) (kC.out _ hK.own) rfl ?_))
  |((with_reducible refine wt 64 ?_);(refine al_loadSA rfl rfl rfl rfl (aggT (by decide)) (kC.out _ hK.own) rfl ?_))
  |((with_reducible refine wt 87 ?_);(refine al_loadSA rfl rfl rfl rfl (aggT (by decide)) (kC2.out _ _ hK.own) rfl ?_))
  |(go_at_call 102;(refine (hK.callsI (fun S hS=>rf_lift (i:=i) (x:=r.pose.at_) hS)).mono ?_;clear hK;rintro e w' ⟨rfl,hK⟩;simp only [z0,z1] at hK))
  |(go_at_call 104;(refine (hK.callsK (r:=rREF c sp m.s) (by repeat (first|exact Ix.head|apply Ix.tail)) (fun S hS=>rf_drop (i:=i) (x:=r.pose.at_) (Know.subL hS (L':=[rConf c]) (by simp)) hz)).mono ?_;clear hK;rintro e w' ⟨rfl,hK⟩;simp only [z0,z1] at hK))
  |(go_at_call 103;(refine (hK.quiet (rf_load hK.own)).mono ?_;clear hK;rintro e w' ⟨rfl,hK⟩))
  |((with_reducible refine wl_at (o:=⟨none,.store 3 _ _,_,_,_,_⟩) ?_);((first|refine al_storeLoad (c:=c) (wp:=wp) (sp:=sp) (ra:=ra) (rc:=rc) (A:=[_]) (m:={m with s:=m.s.lift c.p i r.pose.at_}) _ HR.out HP.out hK rfl rfl rfl rfl rfl ?_|refine al_storeLoad (c:=c) (wp:=wp) (sp:=sp) (ra:=ra) (rc:=rc) (A:=[_]) (m:={m with s:=m.s.drop c.p i r.pose.at_}) _ HR.out HP.out hK rfl rfl rfl rfl rfl ?_);intro w' hK';clear hK;have hK:=hK';clear hK';simp only [rDd,ddCells,ConfV.cells,List.cons_append,List.nil_append] at hK))
  |(go_at_call 76;((first|refine (kF.out _ [_] _ _ _ _ _ _ _ (by first|exact hl0|exact hl1 _) hK).mono ?_|refine (kE.out _ [_] (m.s.lift c.p i r.pose.at_) sa sc 8 0 hK).mono ?_|refine (kE.out _ [_] (m.s.drop c.p i r.pose.at_) sa sc 8 0 hK).mono ?_);clear hK;rintro e w' ⟨rfl,sa',sc',hK⟩;simp only [rDd,ddCells,ConfV.cells,List.cons_append,List.nil_append] at hK))
  |(go_at_call 95;(refine (hK.quiet (ref_port (x:=r.pose.at_) hK.lent hz)).mono ?_;clear hK;rintro e w' ⟨rfl,hK⟩))
  |(refine sl ?_)
  |((with_reducible refine wl_at ?_);first|refine al ?_|refine Held.out ?_)
  |(with_reducible refine Two.mk (fun h=>?_) (fun h=>?_)<;>go_prune)
  |(with_reducible refine en ?_)
  |(with_reducible refine ret_at ?_)
  |(with_reducible refine fun (w':World) (b:Nat) hK'=>?_;clear hK;have hK:=hK';clear hK')
  |(with_reducible refine fun (w':World) hK'=>?_;clear hK;have hK:=hK';clear hK')
  |(with_reducible refine fun (b k:Nat) hat=>?_))
 all_goals
  first|refine al_ret0 rfl ⟨rfl,?_⟩|refine al_end0 rfl ⟨rfl,?_⟩
  show ∃ sa' sc',Turns (rDd c wp sp ra rc ps sa' sc' (({m with s:=(hoistW c.p m.s i r mk).1,rs:=m.rs.set i (hoistW c.p m.s i r mk).2.1}:WM).see i r.pose (hoistW c.p m.s i r mk).2.2)) w _ S
  first
   |(rw [show hoistW c.p m.s i r mk=(m.s.lift c.p i r.pose.at_,r.carry (m.s.liftV c.p i r.pose.at_),[⟨4,m.s.liftV c.p i r.pose.at_,mvZ⟩]) by unfold hoistW;rw [if_pos (by omega),if_pos (by omega)]];exact ⟨_,_,(hK.sub (.cons _ (List.Sublist.refl _))).turns⟩)
   |(rw [show hoistW c.p m.s i r mk=(m.s,r,[⟨8,0,mvZ⟩]) by unfold hoistW;rw [if_pos (by omega),if_neg (by omega)]];rw [show m.s.lift c.p i r.pose.at_=m.s by unfold SM.lift;rw [if_neg (by omega)]] at hK;rw [HS.out];exact ⟨_,_,(hK.sub (.cons _ (List.Sublist.refl _))).turns⟩)
   |(rw [show hoistW c.p m.s i r mk=(m.s,r,[⟨8,0,mvZ⟩]) by unfold hoistW;rw [if_neg (by omega),if_neg (by omega)]];rw [show m.s.drop c.p i r.pose.at_=m.s by unfold SM.drop;rw [if_neg (by omega)]] at hK;rw [HS.out];exact ⟨_,_,(hK.sub (.cons _ (List.Sublist.refl _))).turns⟩)
   |(rw [show hoistW c.p m.s i r mk=(m.s.drop c.p i r.pose.at_,r.carry 0,[⟨5,m.s.load i,mvZ⟩]) by unfold hoistW;rw [if_neg (by omega),if_pos (by omega),if_neg (by omega)]];exact ⟨_,_,(hK.sub (.cons _ (List.Sublist.refl _))).turns⟩)
   |(rw [show hoistW c.p m.s i r mk=(m.s.drop c.p i r.pose.at_,r.carry 0,[⟨5,m.s.load i,mvZ⟩,⟨6,m.s.load i,mvZ⟩]) by unfold hoistW;rw [if_neg (by omega),if_pos (by omega),if_pos (by omega)]];rw [List.append_assoc] at hK;exact ⟨_,_,(hK.sub (.cons _ (List.Sublist.refl _))).turns⟩)
end Go.Proofs.YtngeeilkpnihmaaGreatDoor
namespace Go.Proofs.YtngeeilkpnihmaaGreatDoor
open Go Go.Sk Go.RowKit
set_option maxRecDepth 100000
attribute [local irreducible] wpList Code.wp Calls
theorem dw_delay {c:ConfV} {wp:Nat} {m:WM} {n j d:Int} {w:World} {S:Nat->Prop} (hok: ∀ (i:Nat) r,m.rs[i]?=some r->RMOk c.p r n) (hrs:m.rs.length<=64) (h:Know w w S [rDW c wp m] []):
 Calls Tryz.prog 58 #[.pointer (some ⟨wp,0,none⟩),.int .i64 j,.int .i64 d] w fun e w'=>e=.returned (.int .i64 (delayE m j d))/\Turn (rDW c wp (m.delay j d)) w w' S:=by
 obtain ⟨sp,ra,rc,ps,sa,sc,hlen,hK⟩:=Know.openD [] h
 clear h
 by_cases hin:0<=j/\j<m.rs.length/\1<=d
 · obtain ⟨hin0,hin1,hin2⟩:=hin
   obtain ⟨i,rfl⟩: ∃ i:Nat,j=(i:Int):=⟨j.toNat,by omega⟩
   have hil:i<m.rs.length:=by omega
   obtain ⟨r,hr⟩: ∃ r,m.rs[i]?=some r:=⟨_,List.getElem?_eq_getElem hil⟩
   obtain ⟨p,hp⟩: ∃ p,ps[i]?=some p:=⟨_,List.getElem?_eq_getElem (by rw [hlen];exact hil)⟩
   have HP:=Lib.hid hp
   have kD:=Lib.hid (fun (W:World) (h:Know w W S ([]++rDd c wp sp ra rc ps sa sc m) [])=>turnsD (v:=.tuple #[]) h hr hp (fun S hS=>dr_delay (d:=d) (hok i r hr) hS))
   have e1:m.delay i d={m with rs:=m.rs.set i (r.hold d)}:=by
    unfold WM.delay
    rw [if_pos ⟨hin0,hin1,hin2⟩,Int.toNat_natCast,List.getD_eq_getElem?_getD,hr]
    rfl
   have e2:delayE m i d=0:=by
    unfold delayE
    rw [if_pos ⟨hin0,hin1,hin2⟩]
   have hlen1:ps.length=({m with rs:=m.rs.set i (r.hold d)}:WM).rs.length:=by simp [hlen]
   rw [e1,e2]
   have kZ:=Lib.hid (fun (W:World) (h:Know w W S ([]++rDd c wp sp ra rc ps sa sc {m with rs:=m.rs.set i (r.hold d)}) [])=>(Know.shutD [] hlen1 h).turn)
   have hpl:(i:Int)<ps.length:=by omega
   clear hok e1 e2 hlen1 hr hp hlen
   simp only [rDd,ddCells,ConfV.cells,List.cons_append,List.nil_append] at hK
   refine calls_al _ Tryz.func58 rfl Tryz.ntmps58 (Nat.le_of_ble_eq_true rfl) ?_
   simp only [parL,Nat.reduceAdd]
   repeat' (first
    |((with_reducible refine wl_at (o:=⟨_,.indexAddr _ _ _,_,_,_,_⟩) ?_);(refine al_ix (i:=i) (u:=p) (xs:=ps) (E:=elPtr) hK rfl rfl rfl rfl rfl (by left;repeat (first|exact MemS.ow|apply MemS.tail)) (sizT (by decide)) HP.out ?_))
    |(go_at_call 79;(refine (kD.out _ hK).mono ?_;clear hK;rintro e w' ⟨rfl,hK⟩))
    |(refine sl ?_)
    |((with_reducible refine wl_at ?_);first|refine al ?_|refine Held.out ?_)
    |(with_reducible refine Two.mk (fun h=>?_) (fun h=>?_)<;>go_prune)
    |(with_reducible refine en ?_)
    |(with_reducible refine ret_at ?_)
    |(with_reducible refine fun (w':World) (b:Nat) hK'=>?_;clear hK;have hK:=hK';clear hK')
    |(with_reducible refine fun (w':World) hK'=>?_;clear hK;have hK:=hK';clear hK')
    |(with_reducible refine fun (b k:Nat) hat=>?_))
   all_goals first
    |(exfalso;omega)
    |(refine al_ret1 rfl Vis.int ⟨rfl,kZ.out _ hK⟩)
 · have e1:m.delay j d=m:=by unfold WM.delay;rw [if_neg hin]
   have e2:delayE m j d=1:=by unfold delayE;rw [if_neg hin]
   rw [e1,e2]
   have kZ:=Lib.hid (fun (W:World) (h:Know w W S ([]++rDd c wp sp ra rc ps sa sc m) [])=>(Know.shutD [] hlen h).turn)
   have hin': ¬ (0<=j/\j<ps.length/\1<=d):=by rw [hlen];exact hin
   clear hok e1 e2 hlen hin
   simp only [rDd,ddCells,ConfV.cells,List.cons_append,List.nil_append] at hK
   refine calls_al _ Tryz.func58 rfl Tryz.ntmps58 (Nat.le_of_ble_eq_true rfl) ?_
   simp only [parL,Nat.reduceAdd]
   repeat' (first
    |(refine sl ?_)
    |((with_reducible refine wl_at ?_);first|refine al ?_|refine Held.out ?_)
    |(with_reducible refine Two.mk (fun h=>?_) (fun h=>?_)<;>go_prune)
    |(with_reducible refine en ?_)
    |(with_reducible refine ret_at ?_)
    |(with_reducible refine fun (w':World) (b:Nat) hK'=>?_;clear hK;have hK:=hK';clear hK')
    |(with_reducible refine fun (w':World) hK'=>?_;clear hK;have hK:=hK';clear hK')
    |(with_reducible refine fun (b k:Nat) hat=>?_))
   all_goals first
    |(exfalso;omega)
    |(refine al_ret1 rfl Vis.int ⟨rfl,kZ.out _ hK⟩)
end Go.Proofs.YtngeeilkpnihmaaGreatDoor
