/- The world: Now, Sights, Delay. -/
import Derived.Test.YtngeeilkpnihmaaGreatDoorWdAZ
set_option linter.all false
namespace Go.Proofs.YtngeeilkpnihmaaGreatDoor
open Go Go.Sk Go.RowKit
set_option maxRecDepth 100000
theorem Has.wldK {c:ConfP} {wp:Nat} {m:WM} {w:World} (h:Has w (rWLD c wp m)): ∃ gp sp ra rc ps sa sc,ps.length=m.rs.length/\Know w w none' [] (rWd c wp gp sp ra rc ps sa sc m):=by
 obtain ⟨S,h⟩:=h
 obtain ⟨gp,sp,ra,rc,ps,sa,sc,hl,k⟩:=rWLD_p.1 h
 exact ⟨gp,sp,ra,rc,ps,sa,sc,hl,Know.start w fun r hr=>k.has hr⟩
theorem w_now {c:ConfP} {wp:Nat} {m:WM} {w:World} (h:Has w (rWLD c wp m)):Calls Tryz.prog 12 #[.pointer (some ⟨wp,0,none⟩)] w (Ret (.int .i64 m.now) w):=by
 obtain ⟨gp,sp,ra,rc,ps,sa,sc,hlen,hK⟩:=Has.wldK h
 clear h hlen
 simp only [rWd,wdCells] at hK
 go_enter Tryz.func12,Tryz.ntmps12
 go_wp2_with (first
  |go_big_skip
  |((with_reducible refine wl ?_);refine ldKQ ?_)
  |(with_reducible refine en ?_))
 go_ret
 exact ⟨rfl,hK.mod⟩
theorem w_sights {c:ConfP} {wp:Nat} {m:WM} {w:World} (h:Has w (rWLD c wp m)) (hl:m.l.length<=100000000):Calls Tryz.prog 11 #[.pointer (some ⟨wp,0,none⟩)] w fun e w'=> ∃ ad cap,e=.returned (.slice ad m.l.length cap)/\Turn (rOw 43 elSight (.slice ad m.l.length cap) m.l) w w' none':=by
 obtain ⟨gp,sp,ra,rc,ps,sa,sc,hlen,hK⟩:=Has.wldK h
 clear h hlen
 have kL:=Lib.hid (fun (W:World) (h:Rd W elSight (.slice sa m.l.length sc) m.l)=>w_list h hl)
 simp only [rWd,wdCells] at hK
 go_enter Tryz.func11,Tryz.ntmps11
 go_wp2_with (first
  |(go_at_call 29;(refine (kL.out _ hK.rd).mono ?_;rintro e w' ⟨ad,cap,rfl,hT⟩;replace hK:=hK.push1 hT;clear hT))
  |go_big_skip
  |((with_reducible refine wl ?_);refine ldKQ ?_)
  |(with_reducible refine en ?_))
 go_ret
 exact ⟨ad,cap,rfl,hK.turn⟩
def delayE (m:WM) (i d:Int):Int:=if 0<=i/\i<m.rs.length/\1<=d then 0 else 1
def WM.delay (m:WM) (i d:Int):WM:=if 0<=i/\i<m.rs.length/\1<=d then {m with rs:=m.rs.set i.toNat ((m.rs.getD i.toNat (RM.start poseO)).hold d)} else m
set_option maxHeartbeats 4000000 in
theorem w_delay {c:ConfP} {wp:Nat} {m:WM} {n i d:Int} {w:World} {S:Nat->Prop} (hok: ∀ (i:Nat) r,m.rs[i]?=some r->RMOk c r n) (hrs:m.rs.length<=64) (h:Know w w S [rWLD c wp m] []):
 Calls Tryz.prog 13 #[.pointer (some ⟨wp,0,none⟩),.int .i64 i,.int .i64 d] w fun e w'=>e=.returned (.int .i64 (delayE m i d))/\Turn (rWLD c wp (m.delay i d)) w w' S:=by
 obtain ⟨gp,sp,ra,rc,ps,sa,sc,hlen,hK⟩:=Know.openW [] h
 clear h
 have HSH:=Lib.hid (fun (W:World) (m':WM) (L:List Res) (hl:m'.rs.length=m.rs.length) (h:Know w W S ([]++rWd c wp gp sp ra rc ps sa sc m') L)=>Know.shutW [] (by rw [hl];exact hlen) h)
 by_cases hin:0<=i/\i<m.rs.length
 · obtain ⟨h0,h1⟩:=hin
   obtain ⟨k,rfl⟩: ∃ k:Nat,i=(k:Int):=⟨i.toNat,by omega⟩
   have hkl:k<m.rs.length:=by omega
   obtain ⟨r,hr⟩: ∃ r,m.rs[k]?=some r:=⟨_,List.getElem?_eq_getElem hkl⟩
   obtain ⟨p,hp⟩: ∃ p,ps[k]?=some p:=⟨_,List.getElem?_eq_getElem (by rw [hlen];exact hkl)⟩
   have kRb:=Lib.hid (fun (W:World) (g1 g2 g4 g5:Value) (h1:Has W (rBlk wp [g1,g2,.slice ra ps.length rc,g4,g5] 80)) (h2:Has W (rOw 81 elPtr (.slice ra ps.length rc) ps))=>(show Calls Tryz.prog 30 #[.pointer (some ⟨wp,0,none⟩),.int .i64 (k:Int)] W (Ret (.pointer (some ⟨p,0,none⟩)) W) by
    have:=w_robot (i:=(k:Int)) h1 h2 rfl (by omega)
    rwa [robotV_at hp] at this))
   by_cases hd:1<=d
   · have e1:delayE m k d=0:=if_pos ⟨h0,h1,hd⟩
     have e2:m.delay k d={m with rs:=m.rs.set k (r.hold d)}:=by
      unfold WM.delay
      rw [if_pos ⟨h0,h1,hd⟩,Int.toNat_natCast,List.getD_eq_getElem?_getD,hr]
      rfl
     rw [e1,e2]
     have kD:=Lib.hid (fun (W:World) (L:List Res) (h:Know w W S ([]++rWd c wp gp sp ra rc ps sa sc m) L)=>turnsW (r':=r.hold d) (f:=31) (args:= #[.pointer (some ⟨p,0,none⟩),.int .i64 d]) h hr hp (fun S hS=>rb_delay (hok k r hr) hS))
     have dd:decide (d<1)=false:=decide_eq_false (by omega)
     clear e1 e2 hr hp hok hlen h1 hkl hd
     simp only [rWd,wdCells,List.nil_append] at hK
     go_enter Tryz.func13,Tryz.ntmps13
     go_wp2_with (first
      |(go_at_call 30;(refine (hK.quiet (kRb.out _ _ _ _ _ hK.own hK.own)).mono ?_;clear hK;rintro e w' ⟨rfl,hK⟩))
      |(go_at_call 31;(refine (kD.out _ _ hK).mono ?_;clear hK;rintro e w' ⟨rfl,hK⟩;simp only [rWd,wdCells,List.cons_append,List.nil_append] at hK))
      |go_big_skip
      |((with_reducible refine wl ?_);refine ldKQ ?_)
      |(with_reducible refine en ?_))
     go_ret
     exact ⟨rfl,(HSH.out _ {m with rs:=m.rs.set k (r.hold d)} _ (by simp) hK).turn⟩
   · have e1:delayE m k d=1:=if_neg (fun h=>hd h.2.2)
     have e2:m.delay k d=m:=if_neg (fun h=>hd h.2.2)
     rw [e1,e2]
     have dd:decide (d<1)=true:=decide_eq_true (by omega)
     clear e1 e2 hr hp hok hlen h1 hkl hd
     simp only [rWd,wdCells,List.nil_append] at hK
     go_enter Tryz.func13,Tryz.ntmps13
     go_wp2_with (first
      |(go_at_call 30;(refine (hK.quiet (kRb.out _ _ _ _ _ hK.own hK.own)).mono ?_;clear hK;rintro e w' ⟨rfl,hK⟩))
      |go_big_skip
      |((with_reducible refine wl ?_);refine ldKQ ?_)
      |(with_reducible refine en ?_))
     go_ret
     exact ⟨rfl,(HSH.out _ m _ rfl hK).turn⟩
 · have e1:delayE m i d=1:=if_neg (fun h=>hin ⟨h.1,h.2.1⟩)
   have e2:m.delay i d=m:=if_neg (fun h=>hin ⟨h.1,h.2.1⟩)
   rw [e1,e2]
   have kRb:=Lib.hid (fun (W:World) (g1 g2 g4 g5:Value) (h1:Has W (rBlk wp [g1,g2,.slice ra ps.length rc,g4,g5] 80)) (h2:Has W (rOw 81 elPtr (.slice ra ps.length rc) ps))=>(show Calls Tryz.prog 30 #[.pointer (some ⟨wp,0,none⟩),.int .i64 i] W (Ret (.pointer none) W) by
    have:=w_robot (i:=i) h1 h2 rfl (by omega)
    rwa [robotV_not (by omega)] at this))
   clear e1 e2 hok hlen hin
   simp only [rWd,wdCells,List.nil_append] at hK
   go_enter Tryz.func13,Tryz.ntmps13
   go_wp2_with (first
    |(go_at_call 30;(refine (hK.quiet (kRb.out _ _ _ _ _ hK.own hK.own)).mono ?_;clear hK;rintro e w' ⟨rfl,hK⟩))
    |go_big_skip
    |((with_reducible refine wl ?_);refine ldKQ ?_)
    |(with_reducible refine en ?_))
   go_ret
   exact ⟨rfl,(HSH.out _ m _ rfl hK).turn⟩
end Go.Proofs.YtngeeilkpnihmaaGreatDoor
