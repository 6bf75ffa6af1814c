/- Opening a config that comes in; what the row's list gives: the table of steps. -/
import Derived.Test.YtngeeilkpnihmaaGreatDoorRows
import Derived.Test.YtngeeilkpnihmaaGreatDoorLwZ
import Derived.Test.YtngeeilkpnihmaaGreatDoorStAZ
import Derived.Test.YtngeeilkpnihmaaGreatDoorGrAZ
import Derived.Test.YtngeeilkpnihmaaGreatDoorStCZ
import Derived.Lib.LaidTab
set_option linter.all false
namespace Go.Proofs.YtngeeilkpnihmaaGreatDoor
open Go Go.Sk Go.ChangeShapes Go.WideShapes Go.ChangeAt Go.RowKit
set_option maxRecDepth 100000
theorem bulk_part {H:Type} {d:DataW H} {l:List (DataW H)} (h:d∈l):Rows.uptoBulk d<=Rows.uptoBulkAll l:=by
 induction l with
 |nil=>cases h
 |cons x r ih=>
  simp only [Rows.uptoBulkAll]
  cases List.mem_cons.1 h with
  |inl e=>subst e;omega
  |inr e=>have:=ih e;omega
theorem bulk_one {H:Type} (d:DataW H):1<=Rows.uptoBulk d:=by
 cases d with
 |lit l=>cases l<;>simp [Rows.uptoBulk]
 |nil=>simp [Rows.uptoBulk]
 |ptr d=>simp [Rows.uptoBulk]
 |slice elems spare=>simp [Rows.uptoBulk]
 |agg parts=>simp [Rows.uptoBulk]
 |iface t d=>simp [Rows.uptoBulk]
 |map entries=>simp [Rows.uptoBulk]
 |held h=>simp [Rows.uptoBulk]
theorem bulk_len {H:Type} (l:List (DataW H)):l.length<=Rows.uptoBulkAll l:=by
 induction l with
 |nil=>simp [Rows.uptoBulkAll]
 |cons x r ih=>have:=bulk_one x;simp only [Rows.uptoBulkAll,List.length_cons];omega
theorem bulk_small {H:Type} {l:List (DataW H)} (h:Rows.uptoSmall H l=true):Rows.uptoBulkAll l<=1048576:=of_decide_eq_true h
def bulkOf (H:Type):Bulk H where
 b:=Rows.uptoBulk
 part es sp d h:=by have:=bulk_part h;simp only [Rows.uptoBulk];omega
 len es sp:=by have:=bulk_len es;simp only [Rows.uptoBulk];omega
 agg ds d h:=by have:=bulk_part h;simp only [Rows.uptoBulk];omega
def poseKs:List (Option IntKind):=[some .i64,some .i64,none]
theorem ofk_cell: ∀ cs,ofKinds cellKs cs=true-> ∃ x,cs=elCell.cells x:=by
 intro cs h
 match cs,h with
 |[.int .i64 a,.int .i64 b],_=>exact ⟨⟨a,b⟩,rfl⟩
theorem ofk_pose: ∀ cs,ofKinds poseKs cs=true-> ∃ x,cs=elPose.cells x:=by
 intro cs h
 match cs,h with
 |[.int .i64 a,.int .i64 b,.bool d],_=>exact ⟨⟨⟨a,b⟩,d⟩,rfl⟩
theorem cellElTy:ElTy Tryz.prog 34 elCell cellKs:=⟨by kernel_rfl,by kernel_rfl,rfl,by decide,ofk_cell⟩
theorem poseElTy:ElTy Tryz.prog 36 elPose poseKs:=⟨by kernel_rfl,by kernel_rfl,rfl,by decide,ofk_pose⟩
theorem intElTy:ElTy Tryz.prog 3 elInt [some .i64]:=⟨by kernel_rfl,by kernel_rfl,rfl,by decide,ofk_int⟩
section
variable {H:Type} {enc:TypeId×Value->H} {w:World} {base:Nat} {spare:Nat->Bool} {held:Bool}
theorem open_cell (n:Nat) (cs:List Value) (x:DataW H×List MemPlace) (h:DataW.trod enc Tryz.prog w base spare held n 34 cs=some x): ∃ a:Cell,cs=a.cells:=by
 obtain ⟨a,h,_⟩:=open_plainB cellElTy n cs x h
 exact ⟨a,h⟩
theorem open_stack (n:Nat) (cs:List Value) (x:DataW H×List MemPlace) (h:DataW.trod enc Tryz.prog w base spare held n 85 cs=some x):
 ∃ a:StackV,cs=elStack.cells a/\Rd w elInt a.bins.val a.bins.l/\a.bins.l.length<=(bulkOf H).b x.1:=by
 obtain ⟨xs,m,_,hx,hl,hlen,hf⟩:=DataW.trod_struct Tryz.underlying85 h
 have hl3:cs.length=3:=by rw [hl];kernel_rfl
 obtain ⟨a,b,c,rfl⟩: ∃ a b c,cs=[a,b,c]:=by
  match cs,hl3 with
  |[a,b,c],_=>exact ⟨a,b,c,rfl⟩
 have hx2:xs.length=2:=hlen
 have f0:=hf 0 _ rfl
 have f1:=hf 1 _ rfl
 rw [List.getElem?_eq_getElem (by omega)] at f0 f1
 have g0:DataW.trod enc Tryz.prog w base spare held m 34 [a,b]=some xs[0]:=f0
 have g1:DataW.trod enc Tryz.prog w base spare held m 53 [c]=some xs[1]:=f1
 obtain ⟨p,hp⟩:=open_cell _ _ _ g0
 obtain ⟨v,hv,l,hrd,hll,_,_⟩:=open_csB (bulkOf H) (E:=elInt) (R:=fun _ _=>True) (fun _ _ _ _ _=>trivial) (by kernel_rfl) (by decide) (fun n cs x h=>let ⟨a,h,_⟩:=open_plainB intElTy n cs x h;⟨a,h,trivial⟩) Tryz.underlying53 g1
 obtain ⟨ad,cap,rfl⟩:=hrd.vee
 injection hp with h1 hp
 injection hp with h2 _
 injection hv with hv _
 subst h1 h2 hv
 refine ⟨⟨p,⟨ad,l,cap⟩⟩,rfl,hrd,Nat.le_trans hll ?_⟩
 rw [hx]
 exact (bulkOf H).agg _ _ (List.mem_map_of_mem (List.getElem_mem _))
set_option maxHeartbeats 1000000 in
theorem open_conf (n:Nat) (cs:List Value) (x:DataW H×List MemPlace) (h:DataW.trod enc Tryz.prog w base spare held n 26 cs=some x):
 ∃ c:ConfV,cs=c.cells/\Has w (rConf c)/\(∀ p∈c.robots.l,PoseWf p)/\((bulkOf H).b x.1<=1048576->Upto c):=by
 obtain ⟨xs,m,_,hx,hl,hlen,hf⟩:=DataW.trod_struct Tryz.underlying26 h
 have hl16:cs.length=16:=by rw [hl];kernel_rfl
 obtain ⟨c0,c1,c2,c3,c4,c5,c6,c7,c8,c9,c10,c11,c12,c13,c14,c15,rfl⟩: ∃ c0 c1 c2 c3 c4 c5 c6 c7 c8 c9 c10 c11 c12 c13 c14 c15,cs=[c0,c1,c2,c3,c4,c5,c6,c7,c8,c9,c10,c11,c12,c13,c14,c15]:=by
  match cs,hl16 with
  |[c0,c1,c2,c3,c4,c5,c6,c7,c8,c9,c10,c11,c12,c13,c14,c15],_=>exact ⟨_,_,_,_,_,_,_,_,_,_,_,_,_,_,_,_,rfl⟩
 have hx16:xs.length=16:=hlen
 have hget: ∀ i,i<16-> ∃ y,xs[i]?=some y/\(bulkOf H).b y.1<=(bulkOf H).b x.1:=fun i hi=>⟨xs[i]'(by omega),List.getElem?_eq_getElem _,by rw [hx];exact (bulkOf H).agg _ _ (List.mem_map_of_mem (List.getElem_mem _))⟩
 have num: ∀ i c,DataW.trod enc Tryz.prog w base spare held m 3 [c]=xs[i]?->i<16-> ∃ k,c=.int .i64 k:=fun i c hh hi=>by
  obtain ⟨y,hy,_⟩:=hget i hi
  obtain ⟨k,hk,_,_⟩:=DataW.trod_int Tryz.underlying3 (hh.trans hy)
  injection hk with hk _
  exact ⟨k,hk⟩
 obtain ⟨k0,rfl⟩:=num 0 c0 (hf 0 _ rfl) (by decide)
 obtain ⟨k1,rfl⟩:=num 1 c1 (hf 1 _ rfl) (by decide)
 obtain ⟨k2,rfl⟩:=num 2 c2 (hf 2 _ rfl) (by decide)
 obtain ⟨k7,rfl⟩:=num 7 c7 (hf 7 _ rfl) (by decide)
 obtain ⟨k8,rfl⟩:=num 8 c8 (hf 8 _ rfl) (by decide)
 obtain ⟨k9,rfl⟩:=num 9 c9 (hf 9 _ rfl) (by decide)
 obtain ⟨k10,rfl⟩:=num 10 c10 (hf 10 _ rfl) (by decide)
 obtain ⟨k11,rfl⟩:=num 11 c11 (hf 11 _ rfl) (by decide)
 obtain ⟨k12,rfl⟩:=num 12 c12 (hf 12 _ rfl) (by decide)
 obtain ⟨k13,rfl⟩:=num 13 c13 (hf 13 _ rfl) (by decide)
 obtain ⟨k14,rfl⟩:=num 14 c14 (hf 14 _ rfl) (by decide)
 obtain ⟨y3,e3,b3⟩:=hget 3 (by decide)
 obtain ⟨y4,e4,b4⟩:=hget 4 (by decide)
 obtain ⟨y5,e5,b5⟩:=hget 5 (by decide)
 obtain ⟨y6,e6,b6⟩:=hget 6 (by decide)
 obtain ⟨y15,e15,b15⟩:=hget 15 (by decide)
 have g3:DataW.trod enc Tryz.prog w base spare held m 22 [c3]=some y3:=(hf 3 _ rfl).trans e3
 have g4:DataW.trod enc Tryz.prog w base spare held m 22 [c4]=some y4:=(hf 4 _ rfl).trans e4
 have g5:DataW.trod enc Tryz.prog w base spare held m 23 [c5]=some y5:=(hf 5 _ rfl).trans e5
 have g6:DataW.trod enc Tryz.prog w base spare held m 24 [c6]=some y6:=(hf 6 _ rfl).trans e6
 have g15:DataW.trod enc Tryz.prog w base spare held m 4 [c15]=some y15:=(hf 15 _ rfl).trans e15
 obtain ⟨k15,hk15,_⟩:=DataW.trod_bool Tryz.underlying4 g15
 injection hk15 with hk15 _
 subst hk15
 obtain ⟨v3,hv3,l3,hr3,hl3,_,_⟩:=open_csB (bulkOf H) (E:=elCell) (R:=fun _ _=>True) (fun _ _ _ _ _=>trivial) (by kernel_rfl) (by decide) (fun n cs x h=>let ⟨a,h,_⟩:=open_plainB cellElTy n cs x h;⟨a,h,trivial⟩) Tryz.underlying22 g3
 obtain ⟨v4,hv4,l4,hr4,hl4,_,_⟩:=open_csB (bulkOf H) (E:=elCell) (R:=fun _ _=>True) (fun _ _ _ _ _=>trivial) (by kernel_rfl) (by decide) (fun n cs x h=>let ⟨a,h,_⟩:=open_plainB cellElTy n cs x h;⟨a,h,trivial⟩) Tryz.underlying22 g4
 obtain ⟨v5,hv5,l5,hr5,hl5,_,hn5⟩:=open_csB (bulkOf H) (E:=elPose) (R:=fun p _=> ∀ u∈elPose.cells p,okNum u) (fun _ _ _ h _=>h) (by kernel_rfl) (by decide) (fun n cs x h=>open_plainB poseElTy n cs x h) Tryz.underlying23 g5
 obtain ⟨v6,hv6,l6,hr6,hl6,_,hn6⟩:=open_csB (bulkOf H) (E:=elStack) (R:=fun a k=>Rd w elInt a.bins.val a.bins.l/\a.bins.l.length<=k) (fun _ _ _ h hk=>⟨h.1,Nat.le_trans h.2 hk⟩) (by kernel_rfl) (by decide) (fun n cs x h=>open_stack n cs x h) Tryz.underlying24 g6
 obtain ⟨a3,n3,rfl⟩:=hr3.vee
 obtain ⟨a4,n4,rfl⟩:=hr4.vee
 obtain ⟨a5,n5,rfl⟩:=hr5.vee
 obtain ⟨a6,n6,rfl⟩:=hr6.vee
 injection hv3 with hv3 _
 injection hv4 with hv4 _
 injection hv5 with hv5 _
 injection hv6 with hv6 _
 subst hv3 hv4 hv5 hv6
 refine ⟨⟨k0,k1,k2,⟨a3,l3,n3⟩,⟨a4,l4,n4⟩,⟨a5,l5,n5⟩,⟨a6,l6,n6⟩,k7,k8,k9,k10,k11,k12,k13,k14,k15⟩,rfl,?_,fun p hp=>?_,fun hb=>?_⟩
 · refine Has.all.2 fun r hr=>?_
   simp only [List.mem_cons,List.not_mem_nil,or_false] at hr
   rcases hr with rfl|rfl|rfl|rfl
   · exact hr3.has
   · exact hr4.has
   · exact hr5.has
   · refine Has.two.2 ⟨hr6.has,Has.all.2 fun r hr=>?_⟩
     obtain ⟨s,hs,rfl⟩:=List.mem_map.1 hr
     exact (hn6 s hs).1.has
 · have h0:=hn5 p hp
   exact ⟨okNum_i64 (h0 (.int .i64 p.at_.x) (by simp [Pose.cells])),okNum_i64 (h0 (.int .i64 p.at_.y) (by simp [Pose.cells]))⟩
 · exact ⟨by show l3.length<=_;omega,by show l4.length<=_;omega,by show l5.length<=_;omega,by show l6.length<=_;omega,fun s hs=>by have:=(hn6 s hs).2;omega⟩
theorem open_confA {v:Value} {d:DataW H} {ps:List MemPlace} {r:Reach} {b0:Nat} (hv:Value.okWide Tryz.prog w r b0 26 v) (h:DataW.Trod enc Tryz.prog w base spare held 26 v d ps):
 ∃ c:ConfV,v=.agg c.cells.toArray/\Has w (rConf c)/\(∀ p∈c.robots.l,PoseWf p)/\((bulkOf H).b d<=1048576->Upto c):=by
 obtain ⟨fuel,hf⟩:=h
 obtain ⟨cs,rfl,hsz⟩:=okWide_struct Tryz.underlying26 hv
 obtain ⟨c,hc,h1,h2,h3⟩:=open_conf fuel _ _ hf
 have hc':cs.toList=c.cells:=hc
 exact ⟨c,by rw [<-hc'],h1,h2,h3⟩
end
theorem gSteps:Tryz.prog.globalNamed "skep/grid.steps"=some 0:=by kernel_rfl
theorem gStepsType:(Tryz.prog.globals[0]?).map (·.type)=some 202:=by kernel_rfl
theorem cell_is {P:Nat->Bool} {w:World} {held:Bool} {m:Nat} {a b:Value} {x y:Int} {p:List MemPlace} (h:DataW.trod (H:=Unit) (fun _=>()) Tryz.prog w 0 P held m 34 [a,b]=some (.agg [.lit (.int .i64 x),.lit (.int .i64 y)],p)):a=.int .i64 x/\b=.int .i64 y:=by
 obtain ⟨xs,n,_,hx,_,hlen,hf⟩:=DataW.trod_struct Tryz.underlying34 h
 have hx2:xs.length=2:=hlen
 have f0:=hf 0 _ rfl
 have f1:=hf 1 _ rfl
 match xs,hx2 with
 |[y0,y1],_=>
  have g0:DataW.trod (fun _=>()) Tryz.prog w 0 P held n 3 [a]=some y0:=f0
  have g1:DataW.trod (fun _=>()) Tryz.prog w 0 P held n 3 [b]=some y1:=f1
  obtain ⟨k0,hk0,e0,_⟩:=DataW.trod_int Tryz.underlying3 g0
  obtain ⟨k1,hk1,e1,_⟩:=DataW.trod_int Tryz.underlying3 g1
  injection hk0 with hk0 _
  injection hk1 with hk1 _
  injection hx with hx _
  injection hx with hx
  simp only [List.map_cons,List.map_nil] at hx
  injection hx with h1 hx
  injection hx with h2 _
  have i0:y0.1=.lit (.int .i64 k0):=by rw [e0]
  have i1:y1.1=.lit (.int .i64 k1):=by rw [e1]
  rw [i0] at h1
  rw [i1] at h2
  injection h1 with h1
  injection h2 with h2
  injection h1 with _ h1
  injection h2 with _ h2
  exact ⟨by rw [hk0,h1],by rw [hk1,h2]⟩
theorem steps_of_laid {W:World} (h:laidMetH Tryz.prog [("skep/grid.steps",Rows.laid_skep_grid_steps)] W):Has W stepsR:=by
 have h':laidMet Tryz.prog [("skep/grid.steps",Rows.laid_skep_grid_steps)] W:=h
 obtain ⟨ps,⟨g',t',cs,fuel,p,q,hg',ht',hvar,hd,_,_⟩,_⟩:=h'
 obtain rfl:=Option.some.inj (gSteps.symm.trans hg')
 obtain rfl:=Option.some.inj (gStepsType.symm.trans ht')
 obtain ⟨xs,m,_,hx,hl,hlen,hf⟩:=DataW.trod_array Tryz.underlying202 hd
 have hl8:cs.toList.length=8:=by rw [hl];kernel_rfl
 obtain ⟨a0,a1,a2,a3,a4,a5,a6,a7,hcs⟩: ∃ a0 a1 a2 a3 a4 a5 a6 a7,cs.toList=[a0,a1,a2,a3,a4,a5,a6,a7]:=by
  match cs.toList,hl8 with
  |[a0,a1,a2,a3,a4,a5,a6,a7],_=>exact ⟨_,_,_,_,_,_,_,_,rfl⟩
 match xs,hlen with
 |[y0,y1,y2,y3],_=>
  have hce:Tryz.prog.cellsOf 34=2:=by kernel_rfl
  rw [hce,hcs] at hf
  injection hx with hx _
  simp only [Rows.laid_skep_grid_steps] at hx
  injection hx with hx
  simp only [List.map_cons,List.map_nil] at hx
  injection hx with h0 hx
  injection hx with h1 hx
  injection hx with h2 hx
  injection hx with h3 _
  have f0:DataW.trod (fun _=>()) Tryz.prog W 0 (fun _=>true) false m 34 [a0,a1]=some (y0.1,y0.2):=hf 0 (by decide)
  have f1:DataW.trod (fun _=>()) Tryz.prog W 0 (fun _=>true) false m 34 [a2,a3]=some (y1.1,y1.2):=hf 1 (by decide)
  have f2:DataW.trod (fun _=>()) Tryz.prog W 0 (fun _=>true) false m 34 [a4,a5]=some (y2.1,y2.2):=hf 2 (by decide)
  have f3:DataW.trod (fun _=>()) Tryz.prog W 0 (fun _=>true) false m 34 [a6,a7]=some (y3.1,y3.2):=hf 3 (by decide)
  rw [<-h0] at f0
  rw [<-h1] at f1
  rw [<-h2] at f2
  rw [<-h3] at f3
  obtain ⟨rfl,rfl⟩:=cell_is f0
  obtain ⟨rfl,rfl⟩:=cell_is f1
  obtain ⟨rfl,rfl⟩:=cell_is f2
  obtain ⟨rfl,rfl⟩:=cell_is f3
  refine At.has (fun j u hu=>?_) (by simp)
  have:=World.var?_cell gSteps hvar j
  rw [Nat.zero_add,this,<-Array.getElem?_toList,hcs]
  exact hu
noncomputable def laidWorld (os:Os):World:=
 {World.holding Tryz.prog os ⟨#[],#[],[]⟩ with heap:=(World.holding Tryz.prog os ⟨#[],#[],[]⟩).heap.modify 0 fun
   |.cells _ t frozen=>.cells #[.int .i64 0,.int .i64 (-1),.int .i64 1,.int .i64 0,.int .i64 0,.int .i64 1,.int .i64 (-1),.int .i64 0] t frozen
   |o=>o}
def zeroConf:Value:=.agg #[.int .i64 0,.int .i64 0,.int .i64 0,.slice none 0 0,.slice none 0 0,.slice none 0 0,.slice none 0 0,.int .i64 0,.int .i64 0,.int .i64 0,.int .i64 0,.int .i64 0,.int .i64 0,.int .i64 0,.int .i64 0,.bool false]
end Go.Proofs.YtngeeilkpnihmaaGreatDoor
