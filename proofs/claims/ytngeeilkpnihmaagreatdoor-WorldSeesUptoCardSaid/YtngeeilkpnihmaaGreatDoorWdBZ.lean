/- Texts of mine that belong together: Wd9, Wda. -/
import Derived.Test.YtngeeilkpnihmaaGreatDoorWd4Z
import Derived.Test.YtngeeilkpnihmaaGreatDoorWd6Z
import Derived.Test.YtngeeilkpnihmaaGreatDoorWd7Z
import Derived.Test.YtngeeilkpnihmaaGreatDoorWd8Z
set_option linter.all false
namespace Go.Proofs.YtngeeilkpnihmaaGreatDoor
open Go Go.Sk Go.RowKit
set_option maxRecDepth 100000
def WOk (c:ConfP) (m:WM) (n:Int):Prop:= ∀ (i:Nat) r,m.rs[i]?=some r->RMOk c r n
theorem WOk.set {c:ConfP} {m:WM} {n n':Int} {i:Nat} {r:RM} {rs:List RM} (h:WOk c m n) (hn:n<=n') (he:rs=m.rs.set i r) (hr:RMOk c r n'): ∀ (j:Nat) r',rs[j]?=some r'->RMOk c r' n':=by
 subst he
 intro j r' hj
 by_cases hij:i=j
 · subst hij
   by_cases hl:i<m.rs.length
   · rw [List.getElem?_set_self hl] at hj
     injection hj with hj
     subst hj
     exact hr
   · rw [List.getElem?_eq_none (by rw [List.length_set];omega)] at hj
     cases hj
 · rw [List.getElem?_set_ne hij] at hj
   exact (h j r' hj).more hn
theorem WOk.hear {c:ConfP} {m:WM} {n:Int} {t:Tele} (hm:MayP c) (h:WOk c m n) (hn:0<=n):WOk c (m.hear c t).1 (n+1):=by
 unfold WM.hear
 split
 · split
   · rename_i r hr
     exact h.set (by omega) rfl (RMOk.hear (kinOf_ok hm) (h _ r hr) hn)
   · exact fun i r hr=>(h i r hr).more (by omega)
 · exact fun i r hr=>(h i r hr).more (by omega)
theorem hoist_ok {c:ConfP} {s:SM} {i:Nat} {r:RM} {k n:Int} (h:RMOk c r n):RMOk c (hoistW c s i r k).2.1 n:=by
 unfold hoistW
 repeat' split
 all_goals first|exact h|exact h.carry
theorem tickW_ok {c:ConfP} {s:SM} {i:Nat} {r:RM} {n:Int} (h:RMOk c r n):RMOk c (tickW c s i r).2.1 (n+1):=by
 unfold tickW
 repeat' split
 all_goals first|exact h.tick|exact hoist_ok h.tick
theorem WOk.ticks {c:ConfP} {m:WM} {n:Int} (h:WOk c m n): ∀ j:Nat,WOk c (m.ticks c j).1 (n+1)
 |0=>fun i r hr=>(h i r hr).more (by omega)
 |j+1=>by
  have ih:=WOk.ticks h j
  rw [WM.ticks]
  split
  · rename_i r hr
    have hj:m.rs[j]?=some r:=by
     by_cases hl:j<=m.rs.length
     · rw [(ticks_is (c:=c) m j hl).2.2.1 j (Nat.le_refl _)] at hr;exact hr
     · have hlen: ∀ k,(m.ticks c k).1.rs.length=m.rs.length:=by
        intro k
        induction k with
        |zero=>rfl
        |succ k ihk=>
         rw [WM.ticks]
         split
         · show ((m.ticks c k).1.rs.set k _).length=_;rw [List.length_set,ihk]
         · exact ihk
       have:=(List.getElem?_eq_some_iff.1 hr).1
       rw [hlen] at this
       omega
    exact WOk.set ih (Int.le_refl _) rfl (tickW_ok (h j r hj))
  · exact ih
theorem WOk.tick {c:ConfP} {m:WM} {n:Int} (h:WOk c m n):WOk c (m.tick c).1 (n+1):=WOk.ticks h _
def w9V (r s b:Option Addr):ConfV:=⟨4,1,1,⟨none,[],0⟩,⟨none,[],0⟩,⟨r,[poseO],1⟩,⟨s,[⟨⟨2,0⟩,⟨b,[7],1⟩⟩],1⟩,1,1,1,1,2,1,1,1,false⟩
def w9P:ConfP:=⟨4,1,1,[],[],[poseO],[⟨⟨2,0⟩,[7]⟩],1,1,1,1,2,1,1,1,false⟩
theorem w9_may:MayP w9P where
 nums:=by decide+kernel
 ports8:=by decide
 robots8:=by decide
 inside:=by decide
 apart:=by decide
 beside:=by decide+kernel
 fits:=by decide+kernel
 homes1:=by decide+kernel
 clear:=by decide+kernel
 stacked:=by decide+kernel
 stacks1:=by decide
 bins:=by decide+kernel
 bins1:=by decide+kernel
 bins512:=by decide
theorem w9_has {r s b:Option Addr} {w:World} (h1:Has w (rOw 36 elPose (.slice r 1 1) [poseO])) (h2:Has w (rOw 3 elInt (.slice b 1 1) [7])) (h3:Has w (rOw 85 elStack (.slice s 1 1) [(⟨⟨2,0⟩,⟨b,[7],1⟩⟩:StackV)])):Has w (rConf (w9V r s b)):=by
 refine Has.all.2 fun x hx=>?_
 simp only [List.mem_cons,List.not_mem_nil,or_false] at hx
 rcases hx with rfl|rfl|rfl|rfl
 · exact (Rd.nil w elCell).has
 · exact (Rd.nil w elCell).has
 · exact h1.ord.has
 · refine Has.two.2 ⟨h3.ord.has,Has.all.2 fun x hx=>?_⟩
   obtain ⟨y,hy,rfl⟩:=List.mem_map.1 hx
   have:y=⟨⟨2,0⟩,⟨b,[7],1⟩⟩:=by simpa [w9V] using hy
   subst this
   exact h2.ord.has
theorem w9_sized (r s b:Option Addr):Sized (w9V r s b):=⟨by simp [w9V],by simp [w9V],by simp [w9V],by simp [w9V],fun x hx=>by
 have:x=⟨⟨2,0⟩,⟨b,[7],1⟩⟩:=by simpa [w9V] using hx
 subst this
 simp⟩
theorem w9_wf (r s b:Option Addr): ∀ p∈(w9V r s b).robots.l,PoseWf p:=by
 intro x hx
 simp only [w9V,List.mem_singleton] at hx
 subst hx
 exact ⟨by decide,by decide⟩
def confZ19:List Value:=[.int .i64 0,.int .i64 0,.int .i64 0,.slice none 0 0,.slice none 0 0,.slice none 0 0,.slice none 0 0,.int .i64 0,.int .i64 0,.int .i64 0,.int .i64 0,.int .i64 0,.int .i64 0,.int .i64 0,.int .i64 0,.bool false]
theorem w9_one (r s b:Option Addr): ∀ v∈(w9V r s b).cells,v.oneCell'=true:=by
 intro v hv
 simp only [ConfV.cells,List.mem_cons,List.not_mem_nil,or_false] at hv
 rcases hv with rfl|rfl|rfl|rfl|rfl|rfl|rfl|rfl|rfl|rfl|rfl|rfl|rfl|rfl|rfl|rfl<;>rfl
set_option maxHeartbeats 1000000 in
theorem w9_conf {w:World}:Calls Tryz.prog 14 #[] w fun e w'=> ∃ r s b,e=.returned (.agg (w9V r s b).cells.toArray)/\Turns [rOw 85 elStack (.slice s 1 1) [(⟨⟨2,0⟩,⟨b,[7],1⟩⟩:StackV)],rOw 3 elInt (.slice b 1 1) [7],rOw 36 elPose (.slice r 1 1) [poseO]] w w' none':=by
 have hK:Know w w none' [] []:=Know.start (L:=[]) w (by simp)
 go_enter Tryz.func14,Tryz.ntmps14
 go_wp2_with (first
  |((with_reducible refine wl_at (o:=⟨some 0,.alloc _,_,_,_,_⟩) ?_)
    (refine wl_allocK (z:=.agg (confZ19).toArray) (zs:=confZ19) hK rfl rfl (by kernel_rfl) rfl ?_;clear hK;intro w0 b0 hK))
  |((with_reducible refine wt 2 ?_);(refine wl_buildK 36 elPose [poseO] hK rfl rfl (fun W=>by kernel_rfl) rfl (by decide) ?_;clear hK;intro ad2 w2 hK))
  |((with_reducible refine wt 4 ?_);(refine wl_buildK 3 elInt [7] hK rfl rfl (fun W=>by kernel_rfl) rfl (by decide) ?_;clear hK;intro ad4 w4 hK))
  |((with_reducible refine wt 5 ?_);(refine wl_pure (v:=.agg (StackV.cells ⟨⟨2,0⟩,⟨ad4,[7],1⟩⟩).toArray) rfl (fun W=>by kernel_rfl) ?_))
  |((with_reducible refine wt 6 ?_);(refine wl_buildK 85 elStack [(⟨⟨2,0⟩,⟨ad4,[7],1⟩⟩:StackV)] hK rfl rfl (fun W=>by kernel_rfl) rfl (by decide) ?_;clear hK;intro ad6 w6 hK))
  |((with_reducible refine wt 7 ?_);(refine wl_pure (v:=.agg (ConfV.cells (w9V ad2 ad6 ad4)).toArray) rfl (fun W=>by kernel_rfl) ?_))
  |((with_reducible refine wl_at (o:=⟨none,.store 26 _ _,_,_,_,_⟩) ?_)
    (refine wl_storeWK (vs:=ConfV.cells (w9V ad2 ad6 ad4)) hK rfl rfl rfl rfl (aggS (by decide)) (w9_one _ _ _) (h:=?_);clear hK;intro w' hK;simp only [z0,z1] at hK))
  |go_big_skip
  |((with_reducible refine wl ?_);refine ldQ ?_)
  |(with_reducible refine en ?_))
 exact bodyPost_ret (res_cellS rfl _ rfl (aggT (by decide)) rfl (hK.blk (b:=b0) (cs:=(w9V ad2 ad6 ad4).cells)).at0) rfl ⟨ad2,ad6,ad4,rfl,(hK.sub (.cons_cons _ (.cons_cons _ (.cons_cons _ (.cons _ .slnil))))).turns⟩
def aw0:WM:=WM.start w9P
def aw1:WM:=(aw0.hear w9P ⟨1,0,0,1,⟨1,1,2,poseO,⟨⟨2,0⟩,false⟩,0,2⟩,poseO,0⟩).1
def aw2:WM:=(aw1.tick w9P).1
def aw3:WM:=(aw2.tick w9P).1
def aw4:WM:=(aw3.hear w9P ⟨1,0,0,2,⟨3,0,0,⟨⟨2,0⟩,false⟩,⟨⟨2,0⟩,false⟩,0,2⟩,poseO,0⟩).1
def aw5:WM:=(aw4.tick w9P).1
def aw6:WM×List Tele:=aw5.tick w9P
end Go.Proofs.YtngeeilkpnihmaaGreatDoor
namespace Go.Proofs.YtngeeilkpnihmaaGreatDoor
open Go Go.Sk Go.RowKit
set_option maxRecDepth 100000
theorem aw_out:aw6.2=[(⟨3,0,0,2,mvZ,poseO,0⟩:Tele)]:=by kernel_rfl
theorem aw_l:aw6.1.l=[(⟨1,0,0,0,poseO,⟨1,1,2,poseO,⟨⟨2,0⟩,false⟩,0,2⟩⟩:Sight),(⟨2,2,0,0,⟨⟨2,0⟩,false⟩,⟨1,1,2,poseO,⟨⟨2,0⟩,false⟩,0,2⟩⟩:Sight),(⟨1,2,0,0,⟨⟨2,0⟩,false⟩,⟨3,0,0,⟨⟨2,0⟩,false⟩,⟨⟨2,0⟩,false⟩,0,2⟩⟩:Sight),(⟨4,4,0,7,⟨⟨2,0⟩,false⟩,mvZ⟩:Sight),(⟨2,4,0,0,⟨⟨2,0⟩,false⟩,⟨3,0,0,⟨⟨2,0⟩,false⟩,⟨⟨2,0⟩,false⟩,0,2⟩⟩:Sight)]:=by kernel_rfl
theorem aw_now:aw6.1.now=4:=by kernel_rfl
theorem aw_ok0:WOk w9P aw0 0:=by
 intro i r hr
 have:[RM.start poseO][i]?=some r:=hr
 match i,this with
 |0,h=>injection h with h;subst h;exact RMOk.start ⟨by decide,by decide⟩
theorem teleTyA:SliceTy Tryz.prog 55 58 elTele.sz 152 (Tele.cells ⟨0,0,0,0,mvZ,poseO,0⟩):=
 SliceTy.mk' (z:=.agg (Tele.cells ⟨0,0,0,0,mvZ,poseO,0⟩).toArray) (by kernel_rfl) (by kernel_rfl) rfl rfl
theorem calls_wx {c:ConfP} {wp:Nat} {m m':WM} {ys:List Tele} {f:FuncId} {args:Array Value} {w0 w:World} {F:Nat->Prop} {X:Res} {B L:List Res} (h:Know w0 w F (X::rWLD c wp m::B) L) (hs:stepsR∈L)
 (hc: ∀ S,Know w w S [rWLD c wp m] [stepsR]->Calls Tryz.prog f args w fun e w'=> ∃ ad cap,e=.returned (.slice ad ys.length cap)/\Turns [rOw 58 elTele (.slice ad ys.length cap) ys,rWLD c wp m'] w w' S):
 Calls Tryz.prog f args w fun e w'=> ∃ ad cap,e=.returned (.slice ad ys.length cap)/\Know w0 w' F (X::rWLD c wp m'::rOw 58 elTele (.slice ad ys.length cap) ys::B) L:=by
 have h1:Know w0 w F ([rWLD c wp m]++(X::B)) L:=h.perm (List.Perm.swap _ _ _)
 obtain ⟨S,hKS,back⟩:=Know.focus h1
 refine (hc S (hKS.subL (by simpa using hs))).mono ?_
 rintro e w' ⟨ad,cap,rfl,hT⟩
 refine ⟨ad,cap,rfl,(back w' _ hT).perm ?_⟩
 exact ((List.Perm.cons _ (List.Perm.swap X _ B)).trans (List.Perm.swap X _ _)).trans (List.Perm.cons X (List.Perm.swap _ _ _))
set_option maxHeartbeats 8000000 in
theorem awake19 {w:World} (hst:Has w stepsR):Calls Tryz.prog 9 #[] w (Ret (.bool true) w):=by
 have hK:Know w w none' [] [stepsR]:=Know.start (L:=[stepsR]) w (by simpa using hst)
 clear hst
 have kW:=Lib.hid (fun (W:World) (r s b:Option Addr) (h1:Has W (rOw 36 elPose (.slice r 1 1) [poseO])) (h2:Has W (rOw 3 elInt (.slice b 1 1) [7])) (h3:Has W (rOw 85 elStack (.slice s 1 1) [(⟨⟨2,0⟩,⟨b,[7],1⟩⟩:StackV)])) (h4:Has W stepsR)=>(show Calls Tryz.prog 16 #[.agg (w9V r s b).cells.toArray] W fun e w'=> ∃ wp,e=.returned (.tuple #[.pointer (some ⟨wp,0,none⟩),.int .i64 0])/\Turn (rWLD w9P wp aw0) W w' none' from w_new (c:=w9V r s b) w9_may (w9_has h1 h2 h3) h4 (w9_sized r s b) (w9_wf r s b)))
 have o1:WOk w9P aw1 1:=aw_ok0.hear w9_may (by omega)
 have o2:WOk w9P aw2 2:=o1.tick
 have o3:WOk w9P aw3 3:=o2.tick
 have o4:WOk w9P aw4 4:=o3.hear w9_may (by omega)
 have o5:WOk w9P aw5 5:=o4.tick
 have kH1:=Lib.hid (fun (wp:Nat) (W:World) (S:Nat->Prop) (h:Know W W S [rWLD w9P wp aw0] [stepsR])=>w_hear (t:=⟨1,0,0,1,⟨1,1,2,poseO,⟨⟨2,0⟩,false⟩,0,2⟩,poseO,0⟩) (v:=(aw1,(aw0.hear w9P ⟨1,0,0,1,⟨1,1,2,poseO,⟨⟨2,0⟩,false⟩,0,2⟩,poseO,0⟩).2)) aw_ok0 (by omega) (by decide) (by decide) (by decide) rfl h)
 have kT1:=Lib.hid (fun (wp:Nat) (W:World) (S:Nat->Prop) (h:Know W W S [rWLD w9P wp aw1] [stepsR])=>(show Calls Tryz.prog 19 #[.pointer (some ⟨wp,0,none⟩)] W fun e w'=> ∃ ad cap,e=.returned (.slice ad (aw1.tick w9P).2.length cap)/\Turns [rOw 58 elTele (.slice ad (aw1.tick w9P).2.length cap) (aw1.tick w9P).2,rWLD w9P wp aw2] W w' S from w_tick o1 (by omega) (by decide+kernel) (by decide+kernel) (by decide+kernel) (h.subL (by simp))))
 have kT2:=Lib.hid (fun (wp:Nat) (W:World) (S:Nat->Prop) (h:Know W W S [rWLD w9P wp aw2] [stepsR])=>(show Calls Tryz.prog 19 #[.pointer (some ⟨wp,0,none⟩)] W fun e w'=> ∃ ad cap,e=.returned (.slice ad (aw2.tick w9P).2.length cap)/\Turns [rOw 58 elTele (.slice ad (aw2.tick w9P).2.length cap) (aw2.tick w9P).2,rWLD w9P wp aw3] W w' S from w_tick o2 (by omega) (by decide+kernel) (by decide+kernel) (by decide+kernel) (h.subL (by simp))))
 have kH2:=Lib.hid (fun (wp:Nat) (W:World) (S:Nat->Prop) (h:Know W W S [rWLD w9P wp aw3] [stepsR])=>w_hear (t:=⟨1,0,0,2,⟨3,0,0,⟨⟨2,0⟩,false⟩,⟨⟨2,0⟩,false⟩,0,2⟩,poseO,0⟩) (v:=(aw4,(aw3.hear w9P ⟨1,0,0,2,⟨3,0,0,⟨⟨2,0⟩,false⟩,⟨⟨2,0⟩,false⟩,0,2⟩,poseO,0⟩).2)) o3 (by omega) (by decide) (by decide+kernel) (by decide+kernel) rfl h)
 have kT3:=Lib.hid (fun (wp:Nat) (W:World) (S:Nat->Prop) (h:Know W W S [rWLD w9P wp aw4] [stepsR])=>(show Calls Tryz.prog 19 #[.pointer (some ⟨wp,0,none⟩)] W fun e w'=> ∃ ad cap,e=.returned (.slice ad (aw4.tick w9P).2.length cap)/\Turns [rOw 58 elTele (.slice ad (aw4.tick w9P).2.length cap) (aw4.tick w9P).2,rWLD w9P wp aw5] W w' S from w_tick o4 (by omega) (by decide+kernel) (by decide+kernel) (by decide+kernel) (h.subL (by simp))))
 obtain ⟨m6,hm6⟩: ∃ m6,aw6.1=m6:=⟨_,rfl⟩
 have kT4:=Lib.hid (fun (wp:Nat) (W:World) (S:Nat->Prop) (h:Know W W S [rWLD w9P wp aw5] [stepsR])=>(show Calls Tryz.prog 19 #[.pointer (some ⟨wp,0,none⟩)] W fun e w'=> ∃ ad cap,e=.returned (.slice ad [(⟨3,0,0,2,mvZ,poseO,0⟩:Tele)].length cap)/\Turns [rOw 58 elTele (.slice ad [(⟨3,0,0,2,mvZ,poseO,0⟩:Tele)].length cap) [(⟨3,0,0,2,mvZ,poseO,0⟩:Tele)],rWLD w9P wp m6] W w' S from by
  have:=w_tick o5 (by omega) (by decide+kernel) (by decide+kernel) (by decide+kernel) (h.subL (L':=[]) (by simp))
  rw [show aw5.tick w9P=aw6 from rfl,aw_out,hm6] at this
  exact this))
 have kSi:=Lib.hid (fun (wp:Nat) (W:World) (h:Has W (rWLD w9P wp m6))=>(show Calls Tryz.prog 11 #[.pointer (some ⟨wp,0,none⟩)] W fun e w'=> ∃ ad cap,e=.returned (.slice ad 5 cap)/\Turn (rOw 43 elSight (.slice ad 5 cap) [(⟨1,0,0,0,poseO,⟨1,1,2,poseO,⟨⟨2,0⟩,false⟩,0,2⟩⟩:Sight),(⟨2,2,0,0,⟨⟨2,0⟩,false⟩,⟨1,1,2,poseO,⟨⟨2,0⟩,false⟩,0,2⟩⟩:Sight),(⟨1,2,0,0,⟨⟨2,0⟩,false⟩,⟨3,0,0,⟨⟨2,0⟩,false⟩,⟨⟨2,0⟩,false⟩,0,2⟩⟩:Sight),(⟨4,4,0,7,⟨⟨2,0⟩,false⟩,mvZ⟩:Sight),(⟨2,4,0,0,⟨⟨2,0⟩,false⟩,⟨3,0,0,⟨⟨2,0⟩,false⟩,⟨⟨2,0⟩,false⟩,0,2⟩⟩:Sight)]) W w' none' from by
  have:=w_sights h (by rw [<-hm6,aw_l];decide)
  rw [<-hm6,aw_l] at this
  exact this))
 have kNw:=Lib.hid (fun (wp:Nat) (W:World) (h:Has W (rWLD w9P wp m6))=>(show Calls Tryz.prog 12 #[.pointer (some ⟨wp,0,none⟩)] W (Ret (.int .i64 4) W) from by
  have:=w_now h
  rw [<-hm6,aw_now] at this
  exact this))
 clear o1 o2 o3 o4 o5 hm6
 have H45:=Lib.hid (show [(⟨3,0,0,2,mvZ,poseO,0⟩:Tele)][0]?=some ⟨3,0,0,2,mvZ,poseO,0⟩ from rfl)
 have H0:=Lib.hid (show [(⟨1,0,0,0,poseO,⟨1,1,2,poseO,⟨⟨2,0⟩,false⟩,0,2⟩⟩:Sight),(⟨2,2,0,0,⟨⟨2,0⟩,false⟩,⟨1,1,2,poseO,⟨⟨2,0⟩,false⟩,0,2⟩⟩:Sight),(⟨1,2,0,0,⟨⟨2,0⟩,false⟩,⟨3,0,0,⟨⟨2,0⟩,false⟩,⟨⟨2,0⟩,false⟩,0,2⟩⟩:Sight),(⟨4,4,0,7,⟨⟨2,0⟩,false⟩,mvZ⟩:Sight),(⟨2,4,0,0,⟨⟨2,0⟩,false⟩,⟨3,0,0,⟨⟨2,0⟩,false⟩,⟨⟨2,0⟩,false⟩,0,2⟩⟩:Sight)][0]?=some ⟨1,0,0,0,poseO,⟨1,1,2,poseO,⟨⟨2,0⟩,false⟩,0,2⟩⟩ from rfl)
 have H3:=Lib.hid (show [(⟨1,0,0,0,poseO,⟨1,1,2,poseO,⟨⟨2,0⟩,false⟩,0,2⟩⟩:Sight),(⟨2,2,0,0,⟨⟨2,0⟩,false⟩,⟨1,1,2,poseO,⟨⟨2,0⟩,false⟩,0,2⟩⟩:Sight),(⟨1,2,0,0,⟨⟨2,0⟩,false⟩,⟨3,0,0,⟨⟨2,0⟩,false⟩,⟨⟨2,0⟩,false⟩,0,2⟩⟩:Sight),(⟨4,4,0,7,⟨⟨2,0⟩,false⟩,mvZ⟩:Sight),(⟨2,4,0,0,⟨⟨2,0⟩,false⟩,⟨3,0,0,⟨⟨2,0⟩,false⟩,⟨⟨2,0⟩,false⟩,0,2⟩⟩:Sight)][3]?=some ⟨4,4,0,7,⟨⟨2,0⟩,false⟩,mvZ⟩ from rfl)
 have H4:=Lib.hid (show [(⟨1,0,0,0,poseO,⟨1,1,2,poseO,⟨⟨2,0⟩,false⟩,0,2⟩⟩:Sight),(⟨2,2,0,0,⟨⟨2,0⟩,false⟩,⟨1,1,2,poseO,⟨⟨2,0⟩,false⟩,0,2⟩⟩:Sight),(⟨1,2,0,0,⟨⟨2,0⟩,false⟩,⟨3,0,0,⟨⟨2,0⟩,false⟩,⟨⟨2,0⟩,false⟩,0,2⟩⟩:Sight),(⟨4,4,0,7,⟨⟨2,0⟩,false⟩,mvZ⟩:Sight),(⟨2,4,0,0,⟨⟨2,0⟩,false⟩,⟨3,0,0,⟨⟨2,0⟩,false⟩,⟨⟨2,0⟩,false⟩,0,2⟩⟩:Sight)][4]?=some ⟨2,4,0,0,⟨⟨2,0⟩,false⟩,⟨3,0,0,⟨⟨2,0⟩,false⟩,⟨⟨2,0⟩,false⟩,0,2⟩⟩ from rfl)
 go_enter Tryz.func9,Tryz.ntmps9
 go_wp2_with (first
  |(go_at_call 14;(refine w9_conf.mono ?_;rintro e w' ⟨ra,sa,ba,rfl,hT⟩;replace hK:=hK.push hT;simp only [List.cons_append,List.nil_append] at hK;clear hT))
  |(go_at_call 16;(refine (kW.out _ ra sa ba hK.own hK.own hK.own hK.lent).mono ?_;rintro e w' ⟨wp,rfl,hT⟩;replace hK:=hK.push1 hT;replace hK:=hK.sub (M':=[rWLD w9P wp aw0]) (.cons_cons _ (.cons _ (.cons _ (.cons _ .slnil))));clear hT))
  |((with_reducible refine wt 18 ?_);(refine wl_pure (v:=.agg (Pose.cells ⟨⟨2,0⟩,false⟩).toArray) rfl (fun W=>by kernel_rfl) ?_))
  |((with_reducible refine wl_at (o:=⟨some 3,.alloc _,_,_,_,_⟩) ?_)
    (refine wl_allocK (z:=.agg (poseZ3).toArray) (zs:=poseZ3) hK rfl rfl (by kernel_rfl) rfl ?_;clear hK;intro w3 b3 hK))
  |((with_reducible refine wl_at (o:=⟨none,.store 36 _ _,_,_,_,_⟩) ?_)
    (refine wl_storeWK (vs:=Pose.cells ⟨⟨2,0⟩,false⟩) hK rfl rfl rfl rfl (aggS (by decide)) (pose_one _) (h:=?_);clear hK;intro w' hK;simp only [z0,z1] at hK))
  |((with_reducible refine wt 22 ?_);(refine wl_pure (v:=.agg (Tele.cells ⟨1,0,0,1,⟨1,1,2,poseO,⟨⟨2,0⟩,false⟩,0,2⟩,poseO,0⟩).toArray) rfl (fun W=>by kernel_rfl) ?_))
  |((with_reducible refine wt 32 ?_);(refine wl_pure (v:=.agg (Tele.cells ⟨1,0,0,2,⟨3,0,0,⟨⟨2,0⟩,false⟩,⟨⟨2,0⟩,false⟩,0,2⟩,poseO,0⟩).toArray) rfl (fun W=>by kernel_rfl) ?_))
  |(go_at_call 18;(first
   |(with_reducible refine (calls_wx hK (by simp) (fun S hS=>kH1.out wp _ S hS)).mono ?_;clear hK;rintro e w' ⟨ad1,cp1,rfl,hK⟩;replace hK:=hK.sub (.cons_cons _ (.cons_cons _ (.cons _ (List.Sublist.refl _)))))
   |(with_reducible refine (calls_wx hK (by simp) (fun S hS=>kH2.out wp _ S hS)).mono ?_;clear hK;rintro e w' ⟨ad4,cp4,rfl,hK⟩;replace hK:=hK.sub (.cons_cons _ (.cons_cons _ (.cons _ (List.Sublist.refl _)))))))
  |(go_at_call 19;(first
   |(with_reducible refine (calls_wx hK (by simp) (fun S hS=>kT1.out wp _ S hS)).mono ?_;clear hK;rintro e w' ⟨ad2,cp2,rfl,hK⟩;replace hK:=hK.sub (.cons_cons _ (.cons_cons _ (.cons _ (List.Sublist.refl _)))))
   |(with_reducible refine (calls_wx hK (by simp) (fun S hS=>kT2.out wp _ S hS)).mono ?_;clear hK;rintro e w' ⟨ad3,cp3,rfl,hK⟩;replace hK:=hK.sub (.cons_cons _ (.cons_cons _ (.cons _ (List.Sublist.refl _)))))
   |(with_reducible refine (calls_wx hK (by simp) (fun S hS=>kT3.out wp _ S hS)).mono ?_;clear hK;rintro e w' ⟨ad5,cp5,rfl,hK⟩;replace hK:=hK.sub (.cons_cons _ (.cons_cons _ (.cons _ (List.Sublist.refl _)))))
   |(with_reducible refine (calls_wx hK (by simp) (fun S hS=>kT4.out wp _ S hS)).mono ?_;clear hK;rintro e w' ⟨ad6,cp6,rfl,hK⟩;replace hK:=hK.sub (.cons_cons _ (.cons_cons _ (.cons_cons _ (List.Sublist.refl _)))))))
  |(go_at_call 11;(refine (kSi.out wp _ hK.own).mono ?_;rintro e w' ⟨adS,cpS,rfl,hT⟩;replace hK:=hK.push1 hT;clear hT))
  |(go_at_call 12;(refine (hK.quiet (kNw.out wp _ hK.own)).mono ?_;clear hK;rintro e w' ⟨rfl,hK⟩))
  |((with_reducible refine wt 45 ?_);(refine wl_ixK (i:=0) (u:=(⟨3,0,0,2,mvZ,poseO,0⟩:Tele)) hK rfl rfl rfl rfl teleTyA.und teleTyA.size (hu:=H45) (h:=?_);intro b45 k45 hat45))
  |((with_reducible refine wt 52 ?_);(refine wl_ixK (i:=0) (u:=(⟨3,0,0,2,mvZ,poseO,0⟩:Tele)) hK rfl rfl rfl rfl teleTyA.und teleTyA.size (hu:=H45) (h:=?_);intro b52 k52 hat52))
  |((with_reducible refine wt 64 ?_);(refine wl_ixK (i:=0) (u:=(⟨1,0,0,0,poseO,⟨1,1,2,poseO,⟨⟨2,0⟩,false⟩,0,2⟩⟩:Sight)) hK rfl rfl rfl rfl sightTy.und sightTy.size (hu:=H0) (h:=?_);intro b64 k64 hat64))
  |((with_reducible refine wt 71 ?_);(refine wl_ixK (i:=3) (u:=(⟨4,4,0,7,⟨⟨2,0⟩,false⟩,mvZ⟩:Sight)) hK rfl rfl rfl rfl sightTy.und sightTy.size (hu:=H3) (h:=?_);intro b71 k71 hat71))
  |((with_reducible refine wt 78 ?_);(refine wl_ixK (i:=3) (u:=(⟨4,4,0,7,⟨⟨2,0⟩,false⟩,mvZ⟩:Sight)) hK rfl rfl rfl rfl sightTy.und sightTy.size (hu:=H3) (h:=?_);intro b78 k78 hat78))
  |((with_reducible refine wt 85 ?_);(refine wl_ixK (i:=4) (u:=(⟨2,4,0,0,⟨⟨2,0⟩,false⟩,⟨3,0,0,⟨⟨2,0⟩,false⟩,⟨⟨2,0⟩,false⟩,0,2⟩⟩:Sight)) hK rfl rfl rfl rfl sightTy.und sightTy.size (hu:=H4) (h:=?_);intro b85 k85 hat85))
  |go_big_skip
  |((with_reducible refine wl ?_);refine ldQ ?_)
  |(with_reducible refine en ?_))
 go_ret
 exact ⟨rfl,hK.mod⟩
end Go.Proofs.YtngeeilkpnihmaaGreatDoor
