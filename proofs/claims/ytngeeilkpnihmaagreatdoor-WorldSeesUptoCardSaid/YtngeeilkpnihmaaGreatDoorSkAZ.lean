/- Texts of mine that belong together: SkRegion, SkPure, SkStable, SkMem, SkWalk, SkEq, SkData, SkSlice. -/
import Derived.Still
import Derived.WalkKit
import Derived.Laws.Panics
import Derived.Deep.Draws
import Derived.KernelRfl
import Derived.Deep.DeepMust
import Derived.Laws.StructEq
import Derived.Lib.Hide
set_option linter.all false
namespace Go.Sk
open Go
def noExit:Exit->Act->World->Prop:=fun _ _ _=>False
def Keeps {α:Type} (P:Program) (s:Sem α):Prop:= ∀ w v w',s.run P w=.ok v w'->w'=w
namespace Keeps
variable {P:Program} {α β:Type}
theorem pure (a:α):Keeps P (Pure.pure a:Sem α):=by
 intro w v w' h
 simp only [Sem.run_pure] at h
 injection h with _ h2
 exact h2.symm
theorem bind {s:Sem α} {f:α->Sem β} (hs:Keeps P s) (hf: ∀ a,Keeps P (f a)):Keeps P (s>>=f):=by
 intro w v w' h
 rw [Sem.run_bind] at h
 cases hr:s.run P w with
 |ok a w1=>
  rw [hr] at h
  rw [hf a w1 v w' h,hs w a w1 hr]
 |halt x w1=>rw [hr] at h;cases h
theorem halt (h:Halt):Keeps P (Sem.halt h:Sem α):=by intro w v w' hr;cases hr
theorem program:Keeps P program:=by
 intro w v w' h
 have h':Result.ok P w=Result.ok v w':=h
 injection h' with _ h2
 exact h2.symm
theorem load (a:Addr):Keeps P (load a):=by
 intro w v w' h
 simp only [Go.load,Sem.run] at h
 split at h
 · injection h with _ h2;exact h2.symm
 · split at h
   · injection h with _ h2;exact h2.symm
   · cases h
theorem und (t:TypeId):Keeps P (underlying t):=by
 unfold underlying
 refine .bind .program fun p=>?_
 split
 · exact .pure _
 · exact .halt _
theorem info (t:TypeId):Keeps P (typeInfo t):=by
 unfold typeInfo
 refine .bind .program fun p=>?_
 split
 · exact .pure _
 · exact .halt _
theorem loadCellsFrom (a:Addr): ∀ (n i:Nat) (acc:Array Value),Keeps P (loadCellsFrom a i n acc)
 |0,_,_=>.pure _
 |n+1,i,acc=>by unfold Go.loadCellsFrom;exact .bind (.load _) fun _=>Keeps.loadCellsFrom a n _ _
theorem loadVar (t:TypeId) (a:Addr):Keeps P (loadVar t a):=by
 unfold Go.loadVar
 refine .bind ?_ fun b=>?_
 · unfold isAgg
   refine .bind (.und t) fun d=>?_
   split<;>exact .pure _
 · split
   · exact .bind (.bind (.info t) fun _=>.pure _) fun _=>.bind (.loadCellsFrom _ _ _ _) fun _=>.pure _
   · exact .load a
end Keeps
def isLoad (o:Oper):Bool:=match o.op with|.load ..=>true|_=>false
theorem load_keeps {P:Program} {o:Oper} (h:isLoad o=true) (ρ:Operand->Value) {w w':World} {n:Next} (hr:(execOp ρ o).run P w=.ok n w'): ∃ v,n=.value v/\w'=w:=by
 obtain ⟨dst,op,type,pos,after,guard⟩:=o
 cases op<;>first|(cases h;done)|skip
 rename_i t x
 simp only [execOp,Sem.run_bind] at hr
 cases hs:(Instr.loadAt t (ρ x)).run P w with
 |ok v w1=>
  rw [hs] at hr
  simp only [Result.andThen_ok,Sem.run_pure] at hr
  injection hr with h1 h2
  refine ⟨v,h1.symm,?_⟩
  rw [<-h2]
  have hk:Keeps P (Instr.loadAt t (ρ x)):=by
   unfold Instr.loadAt
   refine .bind ?_ fun a=>.loadVar t a
   unfold Instr.sureAddr
   split
   · exact .pure _
   · exact .halt _
  exact hk w v w1 hs
 |halt x w1=>rw [hs] at hr;cases hr
def isAlloc (o:Oper):Bool:=match o.op with|.alloc _|.box ..|.buildSlice ..=>true|_=>false
def Grows {α:Type} (P:Program) (s:Sem α):Prop:= ∀ w v w',s.run P w=.ok v w'-> ∃ o,w'=w.alloc o
theorem Grows.bind {P:Program} {α β:Type} {s:Sem α} {f:α->Sem β} (hs:Keeps P s) (hf: ∀ a,Grows P (f a)):Grows P (s>>=f):=by
 intro w v w' h
 rw [Sem.run_bind] at h
 cases hr:s.run P w with
 |ok a w1=>
  rw [hr] at h
  obtain rfl:=hs w a w1 hr
  exact hf a _ v w' h
 |halt x w1=>rw [hr] at h;cases h
theorem Grows.bindR {P:Program} {α β:Type} {s:Sem α} {f:α->Sem β} (hs:Grows P s) (hf: ∀ a,Keeps P (f a)):Grows P (s>>=f):=by
 intro w v w' h
 rw [Sem.run_bind] at h
 cases hr:s.run P w with
 |ok a w1=>
  rw [hr] at h
  obtain ⟨o,rfl⟩:=hs w a w1 hr
  exact ⟨o,hf a _ v w' h⟩
 |halt x w1=>rw [hr] at h;cases h
theorem Grows.halt {P:Program} {α:Type} (h:Halt):Grows P (Sem.halt h:Sem α):=by intro w v w' hr;cases hr
theorem Grows.halt_bind {P:Program} {α β:Type} (h:Halt) (f:α->Sem β):Grows P ((Sem.halt h:Sem α)>>=f):=by intro w v w' hr;cases hr
theorem Grows.newRow (P:Program) (t:TypeId) (cs:Array Value):Grows P (newRow t cs):=by
 intro w v w' h
 have h':Result.ok (⟨w.heap.size,0,none⟩:Addr) (w.alloc (.cells cs t))=Result.ok v w':=h
 injection h' with _ h2
 exact ⟨_,h2.symm⟩
theorem Keeps.zeroValue (P:Program) (t:TypeId):Keeps P (zeroValue t):=by
 unfold Go.zeroValue
 refine .bind (.info t) fun i=>?_
 split
 · exact .pure _
 · exact .halt _
theorem Keeps.sizeOf (P:Program) (t:TypeId):Keeps P (sizeOf t):=.bind (.info t) fun _=>.pure _
theorem alloc_grows {P:Program} {o:Oper} (h:isAlloc o=true) (ρ:Operand->Value) {w w':World} {n:Next} (hr:(execOp ρ o).run P w=.ok n w'): ∃ v ob,n=.value v/\w'=w.alloc ob:=by
 obtain ⟨dst,op,type,pos,after,guard⟩:=o
 have key: ∀ {s:Sem Value},Grows P s->(do pure (.value (<-s)):Sem Next).run P w=.ok n w'-> ∃ v ob,n=.value v/\w'=w.alloc ob:=by
  intro s hs hr
  rw [Sem.run_bind] at hr
  cases hq:s.run P w with
  |ok v w1=>
   rw [hq] at hr
   simp only [Result.andThen_ok,Sem.run_pure] at hr
   injection hr with h1 h2
   obtain ⟨ob,hob⟩:=hs w v w1 hq
   exact ⟨v,ob,h1.symm,by rw [<-h2,hob]⟩
  |halt x w1=>rw [hq] at hr;cases hr
 cases op<;>first|(cases h;done)|skip
 case alloc t=>
  refine key ?_ hr
  unfold Instr.alloc
  exact .bind (Keeps.zeroValue P t) fun z=>.bindR (.newRow P t _) fun _=>.pure _
 case box t x=>
  refine key ?_ hr
  unfold Instr.box
  exact .bindR (.newRow P t _) fun _=>.pure _
 case buildSlice t len parts=>
  refine key ?_ hr
  unfold Instr.buildSlice
  refine .bind (.und t) fun d=>?_
  split
  · rename_i e
    refine .bind (Keeps.sizeOf P e) fun sz=>?_
    have rest: ∀ z:Array Value,Grows P (do
     let some cells:=Instr.fill (fun i=>some (i*sz,sz)) ((Array.range (len*sz)).map (z[· % z.size]!)) (parts.map fun (i,x)=>(i,ρ x)).toList|stuck "buildSlice: a part of the wrong size"
     Pure.pure (Value.slice (some (<-newRow e cells)) len len):Sem Value):=by
     intro z
     split
     · exact .bindR (.newRow P e _) fun _=>.pure _
     · exact .halt _
    dsimp only
    split
    · exact .halt_bind _ _
    · split
      · exact .bind (.pure _) fun z=>rest z
      · exact .bind (Keeps.zeroValue P e) fun z=>.bind (.pure _) fun z=>rest z
  · exact .halt _
def Stays {α:Type} (P:Program) (s:Sem α):Prop:= ∀ w v ob,s.run P w=.ok v w->s.run P (w.alloc ob)=.ok v (w.alloc ob)
theorem viewLoad_alloc {p:Program} {w:World} {at_:Addr} {u:TypeId} {a:Addr} {m:Bool} {r:Value×List Addr} (ob:Obj) (h:w.viewLoad p at_ u a m=.ok r):(w.alloc ob).viewLoad p at_ u a m=.ok r:=by
 by_cases hb:at_.block<w.heap.size
 · have he:(w.alloc ob).heap[at_.block]?=w.heap[at_.block]?:=RowKit.Below.heap_alloc w ob _ hb
   unfold World.viewLoad World.seen at h ⊢
   rw [he]
   exact h
 · exfalso
   have hn:w.heap[at_.block]?=none:=by simp;omega
   have hs: ∀ r,w.seen p at_ u a m≠.ok r:=by
    intro r hr
    unfold World.seen at hr
    rw [hn] at hr
    simp only [bind,Except.bind] at hr
    repeat' (first|(cases hr;done)|split at hr)
   unfold World.viewLoad at h
   cases hq:w.seen p at_ u a m with
   |ok r=>exact hs r hq
   |error e=>rw [hq] at h;cases h
namespace Stays
variable {P:Program} {α β:Type}
theorem pure (a:α):Stays P (Pure.pure a:Sem α):=by
 intro w v ob h
 simp only [Sem.run_pure] at h ⊢
 injection h with h1 _
 rw [h1]
theorem halt (h:Halt):Stays P (Sem.halt h:Sem α):=by intro w v ob hr;cases hr
theorem bind {s:Sem α} {f:α->Sem β} (hk:Keeps P s) (hs:Stays P s) (hf: ∀ a,Stays P (f a)):Stays P (s>>=f):=by
 intro w v ob h
 rw [Sem.run_bind] at h ⊢
 cases hr:s.run P w with
 |ok a w1=>
  obtain rfl:=hk w a w1 hr
  rw [hr] at h
  rw [hs _ a ob hr]
  exact hf a _ v ob h
 |halt x w1=>rw [hr] at h;cases h
theorem program:Stays P program:=by
 intro w v ob h
 have h':Result.ok P w=Result.ok v w:=h
 injection h' with h1 _
 subst h1
 rfl
theorem load (a:Addr):Stays P (load a):=by
 intro w v ob h
 simp only [Go.load,Sem.run] at h ⊢
 have hb: ∀ x,w.heap[a.block]?=some x->(w.alloc ob).heap[a.block]?=some x:=by
  intro x hx
  rw [RowKit.Below.heap_alloc w ob _ (Array.getElem?_eq_some_iff.1 hx).1]
  exact hx
 cases hc:w.cell? a with
 |some u=>
  rw [hc] at h
  injection h with h1 _
  subst h1
  have:(w.alloc ob).cell? a=some u:=by
   have hlt:=World.block_lt_of_cell? w a hc
   rw [World.cell?_of_block (RowKit.Below.heap_alloc w ob _ hlt)]
   exact hc
  rw [this]
 |none=>
  rw [hc] at h
  simp only [] at h
  unfold World.farLoad at h
  split at h
  · rename_i hv
    split at hv
    · rename_i at_ u hview
      split at hv
      · rename_i r hr
        have hcn:(w.alloc ob).cell? a=none:=by simp [World.cell?,hb _ hview]
        rw [hcn]
        simp only []
        unfold World.farLoad
        rw [hb _ hview]
        simp only [viewLoad_alloc ob hr]
        injection hv with hv
        subst hv
        injection h with h1 _
        rw [h1]
      · cases hv
    · cases hv
  · cases h
theorem und (t:TypeId):Stays P (underlying t):=by
 unfold underlying
 refine .bind .program .program fun p=>?_
 split
 · exact .pure _
 · exact .halt _
theorem info (t:TypeId):Stays P (typeInfo t):=by
 unfold typeInfo
 refine .bind .program .program fun p=>?_
 split
 · exact .pure _
 · exact .halt _
theorem loadCellsFrom (a:Addr): ∀ (n i:Nat) (acc:Array Value),Stays P (loadCellsFrom a i n acc)
 |0,_,_=>.pure _
 |n+1,i,acc=>by unfold Go.loadCellsFrom;exact .bind (.load _) (.load _) fun _=>Stays.loadCellsFrom a n _ _
theorem isAgg (t:TypeId):Stays P (isAgg t):=by
 unfold Go.isAgg
 refine .bind (.und t) (.und t) fun d=>?_
 split<;>exact .pure _
theorem loadVar (t:TypeId) (a:Addr):Stays P (loadVar t a):=by
 unfold Go.loadVar
 refine .bind ?_ (.isAgg t) fun b=>?_
 · unfold Go.isAgg
   refine .bind (.und t) fun d=>?_
   split<;>exact .pure _
 · split
   · exact .bind (.bind (.info t) fun _=>.pure _) (.bind (.info t) (.info t) fun _=>.pure _) fun _=>.bind (.loadCellsFrom _ _ _ _) (.loadCellsFrom _ _ _ _) fun _=>.pure _
   · exact .load a
end Stays
theorem load_stays {P:Program} {o:Oper} (h:isLoad o=true) (ρ:Operand->Value) {w:World} {v:Value} (ob:Obj) (hr:(execOp ρ o).run P w=.ok (.value v) w):(execOp ρ o).run P (w.alloc ob)=.ok (.value v) (w.alloc ob):=by
 obtain ⟨dst,op,type,pos,after,guard⟩:=o
 cases op<;>first|(cases h;done)|skip
 rename_i t x
 have hk:Keeps P (Instr.loadAt t (ρ x)):=by
  unfold Instr.loadAt
  refine .bind ?_ fun a=>.loadVar t a
  unfold Instr.sureAddr
  split
  · exact .pure _
  · exact .halt _
 have hs:Stays P (Instr.loadAt t (ρ x)):=by
  unfold Instr.loadAt
  refine .bind ?_ ?_ fun a=>.loadVar t a
  · unfold Instr.sureAddr
    split
    · exact .pure _
    · exact .halt _
  · unfold Instr.sureAddr
    split
    · exact .pure _
    · exact .halt _
 have:Stays P (do pure (.value (<-Instr.loadAt t (ρ x))):Sem Next):=.bind hk hs fun _=>.pure _
 exact this w _ ob hr
theorem runN_add (P:Program): ∀ (n k:Nat) (m a:Machine),runN P n m=.next a->runN P (n+k) m=runN P k a
 |0,k,m,a,h=>by
  simp only [runN,Stepped.next.injEq] at h
  subst h
  rw [Nat.zero_add]
 |n+1,k,m,a,h=>by
  rw [Nat.add_right_comm]
  simp only [runN] at h ⊢
  cases hs:step P m with
  |next m1=>rw [hs] at h;exact runN_add P n k m1 a h
  |_=>rw [hs] at h;cases h
theorem call_both {P:Program} {f:FuncId} {args:Array Value} {w w2:World} {v':Value} {R:Ending->World->Prop} (h1:Calls P f args w R) (hR: ∀ e w',R e w'-> ∃ x,e=.returned x) (h2:Calls P f args w fun e w'=>e=.returned v'/\w'=w2):R (.returned v') w2:=by
 let c:Frame:={fn:=P.funcs.size,tmps:= #[],todo:=[],defers:=[],mode:=.returning,kind:=.report}
 obtain ⟨e1,u1,f1,hr1,hs1,_,l1⟩:=h1 [c]
 obtain ⟨v,rfl⟩:=hR _ _ hr1
 obtain ⟨n1,s1⟩:=hs1
 obtain ⟨e2,u2,f2,⟨rfl,rfl⟩,⟨n2,s2⟩,_,l2⟩:=h2 [c]
 have stuck: ∀ (v:Value) (w:World),∃ o w',step P (lone (c.finish v) [] w)=.ended o w':=by
  intro v w
  refine ⟨.stuck "report: Error or String returned no string" "",w,step_lone_ended ?_⟩
  simp [stepG,unwind,c,Frame.finish,doReturn,GStep.bare]
 have key: ∀ (k:Nat) (fr fr':Frame) (u u':World) (x:Value),fr.leaving P u (.returned x)->runN P (k+1) (lone fr [c] u)=.next (lone fr' [c] u')->False:=by
  intro k fr fr' u u' x hl h
  simp only [runN,step_leave_returned hl] at h
  cases k with
  |zero=>
   simp only [runN,Stepped.next.injEq] at h
   have:=congrArg (fun m:Machine=>m.gs.map (·.callers)) h
   simp [lone] at this
  |succ k=>
   obtain ⟨o,w',hs⟩:=stuck x u
   simp only [runN,hs] at h
   cases h
 have done: ∀ (fr fr':Frame) (u u':World) (x x':Value),fr.leaving P u (.returned x)->fr'.leaving P u' (.returned x')->lone fr [c] u=lone fr' [c] u'->x=x'/\u=u':=by
  intro fr fr' u u' x x' h h' he
  have e1:=congrArg (fun m:Machine=>m.gs.map (·.frame)) he
  have e2:=congrArg (fun m:Machine=>m.world) he
  simp [lone] at e1 e2
  subst e1 e2
  obtain ⟨_,_,_,fn,hf,hr⟩:=h
  obtain ⟨_,_,_,fn',hf',hr'⟩:=h'
  rw [hf] at hf'
  injection hf' with hf'
  subst hf'
  rw [hr] at hr'
  injection hr' with hr'
  exact ⟨hr',rfl⟩
 rcases Nat.lt_trichotomy n1 n2 with h|h|h
 · obtain ⟨k,rfl⟩: ∃ k,n2=n1+(k+1):=⟨n2 - n1 - 1,by omega⟩
   rw [runN_add P n1 (k+1) _ _ s1] at s2
   exact (key _ _ _ _ _ _ l1 s2).elim
 · subst h
   rw [s1] at s2
   injection s2 with s2
   obtain ⟨rfl,rfl⟩:=done _ _ _ _ _ _ l1 l2 s2
   exact hr1
 · obtain ⟨k,rfl⟩: ∃ k,n1=n2+(k+1):=⟨n1 - n2 - 1,by omega⟩
   rw [runN_add P n2 (k+1) _ _ s2] at s1
   exact (key _ _ _ _ _ _ l2 s1).elim
def gives (P:Program) (s:Sem Next) (v:Value) (w:World):Prop:=
 s.run P w=.ok (.value v) w\/ ∃ f args,s.run P w=.ok (.enter f args) w/\Calls P f args w fun e w'=>e=.returned v/\w'=w
theorem gives_one {P:Program} {s:Sem Next} {v v':Value} {w:World} (h:gives P s v w) (h':gives P s v' w):v=v':=by
 rcases h with h|⟨f,args,h,hc⟩<;>rcases h' with h'|⟨f',args',h',hc'⟩<;>rw [h] at h'<;>injection h' with h' _
 · injection h'
 · cases h'
 · cases h'
 · injection h' with h1 h2
   subst h1 h2
   obtain ⟨h3,_⟩:=call_both hc (fun e w' he=>⟨_,he.1⟩) hc'
   injection h3 with h3
   exact h3.symm
theorem gives_wp {P:Program} {o:Oper} {a:Act} {v:Value} {w:World} {K:Act->World->Prop} {Q:Exit->Act->World->Prop} (h:gives P (execOp a.eval o) v w) (hK:K (a.put o.dst v) w):o.wp P a w K Q:=by
 unfold Oper.wp
 rcases h with h|⟨f,args,h,hc⟩
 · rw [h];exact hK
 · rw [h]
   exact hc.mono fun e w' ⟨he,hw⟩=>by subst he hw;exact hK
theorem gives_back {P:Program} {o:Oper} {a:Act} {v:Value} {w:World} {K:Act->World->Prop} (h:gives P (execOp a.eval o) v w) (hK:o.wp P a w K noExit):K (a.put o.dst v) w:=by
 unfold Oper.wp at hK
 rcases h with h|⟨f,args,h,hc⟩
 · rw [h] at hK;exact hK
 · rw [h] at hK
   have:=call_both hK (fun e w' he=>by
    cases e
    case returned v=>exact ⟨v,rfl⟩
    case panicked c=>exact he.elim
    case outgrown=>obtain ⟨_,_,h⟩:=he;exact h.elim) hc
   exact this
section
variable {P:Program} {ops:Array Oper} {C:World->Prop} {L:List Nat}
def same (P:Program) (C:World->Prop) (o:Oper) (a:Act) (next:Act->Prop):Prop:=
 ∃ v,(∀ w,C w->gives P (execOp a.eval o) v w)/\next (a.put o.dst v)
def stepL (P:Program) (C:World->Prop) (loud:Bool) (o:Oper) (K:Act->World->Prop) (a:Act) (w:World):Prop:=
 if loud then o.wp P a w (fun a' w'=>C w'/\K a' w') noExit else same P C o a (fun a'=>K a' w)
def wpLex (P:Program) (ops:Array Oper) (C:World->Prop) (L:List Nat) (Q:Act->World->Prop):Nat->List Oper->Act->World->Prop
 |_,[],a,w=>Q a w
 |k,o::rest,a,w=>
  if Region.wanted o (yielded ops a.tmps) then stepL P C (L.contains k) o (wpLex P ops C L Q (k+1) rest) a w
  else wpLex P ops C L Q (k+1) rest (a.put o.dst undef) w
def opL (P:Program) (ops:Array Oper) (C:World->Prop) (L:List Nat) (i:Nat) (K:Act->World->Prop) (a:Act) (w:World):Prop:=
 match ops[i]? with
 |none=>K a w
 |some o=>if Region.wanted o (yielded ops a.tmps) then stepL P C (L.contains i) o K a w else K (a.put o.dst undef) w
theorem wp_monoQ {o:Oper} {a:Act} {w:World} {K K':Act->World->Prop} {Q:Exit->Act->World->Prop} (h: ∀ a w,K a w->K' a w)
 (hh:o.wp P a w K noExit):o.wp P a w K' Q:=by
 unfold Oper.wp at*
 generalize (execOp a.eval o).run P w=r at*
 cases r with
 |ok n w'=>
  cases n<;>simp only [Oper.upon] at hh ⊢
  case enter f args=>
   exact Calls.mono hh (fun e w'' he=>by
    cases e
    case returned v=>exact h _ _ he
    case panicked c=>exact he.elim
    case outgrown=>obtain ⟨_,_,h⟩:=he;exact h.elim)
  case row=>exact Rows.mono hh (fun _ _ he=>h _ _ he)
  all_goals exact h _ _ hh
 |halt x w'=>cases x<;>simp only [Oper.upon,noExit] at hh
theorem stepL_mono {loud:Bool} {o:Oper} {a:Act} {w:World} {K K':Act->World->Prop} (hC:C w) (h: ∀ a w,C w->K a w->K' a w)
 (hh:stepL P C loud o K a w):stepL P C loud o K' a w:=by
 unfold stepL at*
 split at hh
 · rename_i hl;simp only [hl,if_true];exact wp_monoQ (fun a w hk=>⟨hk.1,h a w hk.1 hk.2⟩) hh
 · rename_i hl;simp only [hl];obtain ⟨v,h1,h2⟩:=hh;exact ⟨v,h1,h _ _ hC h2⟩
theorem opL_mono {i:Nat} {a:Act} {w:World} {K K':Act->World->Prop} (hC:C w) (h: ∀ a w,C w->K a w->K' a w)
 (hh:opL P ops C L i K a w):opL P ops C L i K' a w:=by
 unfold opL at*
 split
 · rename_i ho;simp only [ho] at hh;exact h _ _ hC hh
 · rename_i o ho
   simp only [ho] at hh
   split
   · rename_i hw;simp only [hw,if_true] at hh;exact stepL_mono hC h hh
   · rename_i hw;simp only [hw] at hh;exact h _ _ hC hh
def After (o:Oper) (a a':Act):Prop:= ∃ ds u,a'=({a with defers:=ds}:Act).put o.dst u
theorem wp_after {o:Oper} {a:Act} {w:World} {K:Act->World->Prop} (hh:o.wp P a w K noExit):
 o.wp P a w (fun a' w'=>After o a a'/\K a' w') noExit:=by
 unfold Oper.wp at*
 generalize (execOp a.eval o).run P w=r at*
 cases r with
 |ok n w'=>
  cases n<;>simp only [Oper.upon] at hh ⊢
  case enter f args=>
   exact Calls.mono hh (fun e w'' he=>by
    cases e
    case returned v=>exact ⟨⟨a.defers,v,rfl⟩,he⟩
    case panicked c=>exact he.elim
    case outgrown=>exact he)
  case row=>exact Rows.mono hh (fun v _ he=>⟨⟨a.defers,v,rfl⟩,he⟩)
  case value v=>exact ⟨⟨a.defers,v,rfl⟩,hh⟩
  case skip=>exact ⟨⟨a.defers,undef,rfl⟩,hh⟩
  case defer d=>exact ⟨⟨d::a.defers,undef,rfl⟩,hh⟩
 |halt x w'=>cases x<;>simp only [Oper.upon,noExit] at hh
theorem wp_exists {o:Oper} {a:Act} {w:World} {K:Act->World->Prop} (hh:o.wp P a w K noExit): ∃ a' w',K a' w':=by
 unfold Oper.wp at*
 generalize (execOp a.eval o).run P w=r at*
 cases r with
 |ok n w'=>
  cases n<;>simp only [Oper.upon] at hh
  case enter f args=>
   obtain ⟨e,w'',fr,he,_⟩:=hh []
   cases e
   case returned v=>exact ⟨_,_,he⟩
   case panicked c=>exact he.elim
   case outgrown=>obtain ⟨_,_,h⟩:=he;exact h.elim
  case row r args=>
   obtain ⟨v,w'',h,_⟩:=hh {fn:=0,tmps:= #[],todo:=[],defers:=[],mode:=.run,kind:=.normal} []
   exact ⟨_,_,h⟩
  all_goals exact ⟨_,_,hh⟩
 |halt x w'=>cases x<;>simp only [Oper.upon,noExit] at hh
theorem put_defers (a:Act) (ds:List Deferred) (d:Option Tmp) (v:Value):({a with defers:=ds}:Act).put d v={a.put d v with defers:=ds}:=by
 cases d<;>rfl
theorem put_defers' (a:Act) (d:Option Tmp) (v:Value):(a.put d v).defers=a.defers:=by cases d<;>rfl
theorem wp_put {o:Oper} {x:Option Tmp} {v:Value} (hs: ∀ cs b,o.op≠.select cs b) (h1: ∀ d,x=some d->d ∉ o.looksAt ops) (h2: ∀ d,x=some d->o.dst≠some d)
 {a:Act} {w:World} {K:Act->World->Prop} (hh:o.wp P a w (fun a' w'=>K (a'.put x v) w') noExit):o.wp P (a.put x v) w K noExit:=by
 unfold Oper.wp at*
 rw [execOp_put o hs a x v h1]
 have hc: ∀ u,(a.put x v).put o.dst u=(a.put o.dst u).put x v:=fun u=>Act.put_comm a v u h2
 generalize (execOp a.eval o).run P w=r at*
 cases r with
 |ok n w'=>
  cases n<;>simp only [Oper.upon] at hh ⊢
  case enter f args=>
   exact Calls.mono hh (fun e w'' he=>by
    cases e
    case returned u=>show K _ _;rw [hc];exact he
    case panicked c=>exact he.elim
    case outgrown=>exact he)
  case row=>exact Rows.mono hh (fun u _ he=>by rw [hc];exact he)
  case value u=>rw [hc];exact hh
  case skip=>rw [hc];exact hh
  case defer d=>
   rw [put_defers']
   have:({a.put x v with defers:=d::a.defers}:Act).put o.dst undef=(({a with defers:=d::a.defers}:Act).put o.dst undef).put x v:=by
    rw [<-put_defers,Act.put_comm _ v undef h2]
   rw [this];exact hh
 |halt y w'=>cases y<;>simp only [Oper.upon,noExit] at hh
theorem wp_put' {o:Oper} {x:Option Tmp} {v:Value} (hs: ∀ cs b,o.op≠.select cs b) (h1: ∀ d,x=some d->d ∉ o.looksAt ops) (h2: ∀ d,x=some d->o.dst≠some d)
 {a:Act} {w:World} {K:Act->World->Prop} (hh:o.wp P (a.put x v) w K noExit):o.wp P a w (fun a' w'=>K (a'.put x v) w') noExit:=by
 unfold Oper.wp at*
 rw [execOp_put o hs a x v h1] at hh
 have hc: ∀ u,(a.put x v).put o.dst u=(a.put o.dst u).put x v:=fun u=>Act.put_comm a v u h2
 generalize (execOp a.eval o).run P w=r at*
 cases r with
 |ok n w'=>
  cases n<;>simp only [Oper.upon] at hh ⊢
  case enter f args=>
   exact Calls.mono hh (fun e w'' he=>by
    cases e
    case returned u=>show K _ _;rw [<-hc];exact he
    case panicked c=>exact he.elim
    case outgrown=>exact he)
  case row=>exact Rows.mono hh (fun u _ he=>by rw [<-hc];exact he)
  case value u=>rw [<-hc];exact hh
  case skip=>rw [<-hc];exact hh
  case defer d=>
   rw [put_defers'] at hh
   have:({a.put x v with defers:=d::a.defers}:Act).put o.dst undef=(({a with defers:=d::a.defers}:Act).put o.dst undef).put x v:=by
    rw [<-put_defers,Act.put_comm _ v undef h2]
   rw [<-this];exact hh
 |halt y w'=>cases y<;>simp only [Oper.upon,noExit] at hh
theorem eval_after {o oj:Oper} {a a':Act} (hs: ∀ cs b,oj.op≠.select cs b) (h:After o a a') (h1: ∀ d,o.dst=some d->d ∉ oj.looksAt ops):
 execOp a'.eval oj=execOp a.eval oj/\Region.wanted oj (yielded ops a'.tmps)=Region.wanted oj (yielded ops a.tmps):=by
 obtain ⟨ds,u,rfl⟩:=h
 have e1:=execOp_put (ops:=ops) oj hs ({a with defers:=ds}:Act) o.dst u h1
 have e2:=wanted_put (ops:=ops) oj ({a with defers:=ds}:Act) o.dst u h1
 have e3:(({a with defers:=ds}:Act)).eval=a.eval:=by funext x;cases x<;>rfl
 rw [e3] at e1
 exact ⟨e1,e2⟩
theorem swap {i j:Nat} {oi oj:Oper} (hi:ops[i]?=some oi) (hj:ops[j]?=some oj) (hsi: ∀ cs b,oi.op≠.select cs b) (hsj: ∀ cs b,oj.op≠.select cs b)
 (hap:oi.apart ops oj=true) (hq:(L.contains i=false\/L.contains j=false)\/(isLoad oi=true/\(isLoad oj=true\/(isAlloc oj=true/\ ∀ w ob,C w->C (w.alloc ob))))) {K:Act->World->Prop} {a:Act} {w:World} (hC:C w)
 (h:opL P ops C L i (opL P ops C L j K) a w):opL P ops C L j (opL P ops C L i K) a w:=by
 obtain ⟨p1,p2,p3⟩:=Oper.apart_spec hap
 have p2': ∀ d,oj.dst=some d->oi.dst≠some d:=fun d hd he=>p2 d he hd
 have quiet: ∀ {k:Nat} {o:Oper} {K:Act->World->Prop} {a:Act} {w:World},ops[k]?=some o->(L.contains k=false\/Region.wanted o (yielded ops a.tmps)=false)->
  (opL P ops C L k K a w ↔ ∃ v,((Region.wanted o (yielded ops a.tmps)=true/\ ∀ w,C w->gives P (execOp a.eval o) v w)\/(Region.wanted o (yielded ops a.tmps)=false/\v=undef))/\K (a.put o.dst v) w):=by
  intro k o K a w hk hl
  unfold opL
  simp only [hk]
  by_cases hw:Region.wanted o (yielded ops a.tmps)=true
  · have hl':L.contains k=false:=hl.resolve_right (by simp [hw])
    simp only [hw,if_true,stepL,hl',Bool.false_eq_true,if_false,same,true_and]
    constructor
    · rintro ⟨v,h1,h2⟩;exact ⟨v,.inl h1,h2⟩
    · rintro ⟨v,h1|h1,h2⟩
      · exact ⟨v,h1,h2⟩
      · exact absurd h1.1 (by simp)
  · have hw':Region.wanted o (yielded ops a.tmps)=false:=by simpa using hw
    simp only [hw',Bool.false_eq_true,if_false,false_and,false_or,true_and]
    constructor
    · intro h;exact ⟨_,rfl,h⟩
    · rintro ⟨v,rfl,h⟩;exact h
 have loud: ∀ {k:Nat} {o:Oper} {K:Act->World->Prop} {a:Act} {w:World},ops[k]?=some o->L.contains k=true->Region.wanted o (yielded ops a.tmps)=true->
  (opL P ops C L k K a w ↔ o.wp P a w (fun a' w'=>C w'/\K a' w') noExit):=by
  intro k o K a w hk hl hw
  unfold opL
  simp only [hk,hw,if_true,stepL,hl]
 by_cases qi:L.contains i=false\/Region.wanted oi (yielded ops a.tmps)=false
 · obtain ⟨v,hv,h2⟩:=(quiet hi qi).1 h
   by_cases qj:L.contains j=false\/Region.wanted oj (yielded ops a.tmps)=false
   · have qj':L.contains j=false\/Region.wanted oj (yielded ops (a.put oi.dst v).tmps)=false:=by rw [wanted_put oj a oi.dst v p1];exact qj
     obtain ⟨u,hu,h3⟩:=(quiet hj qj').1 h2
     rw [wanted_put oj a oi.dst v p1,execOp_put oj hsj a oi.dst v p1] at hu
     refine (quiet hj qj).2 ⟨u,hu,(quiet hi (by rw [wanted_put oi a oj.dst u p3];exact qi)).2 ⟨v,?_,?_⟩⟩
     · rw [wanted_put oi a oj.dst u p3,execOp_put oi hsi a oj.dst u p3];exact hv
     · rw [<-Act.put_comm a v u p2];exact h3
   · have lj:L.contains j=true:=by cases hb:L.contains j<;>simp_all
     have wj:Region.wanted oj (yielded ops a.tmps)=true:=by cases hb:Region.wanted oj (yielded ops a.tmps)<;>simp_all
     have h3:=(loud hj lj (by rw [wanted_put oj a oi.dst v p1];exact wj)).1 h2
     have h4:=wp_after (wp_put' (ops:=ops) hsj p1 p2 h3)
     refine (loud hj lj wj).2 (wp_monoQ (fun a' w'=>?_) h4)
     rintro ⟨haf,hC',hK⟩
     obtain ⟨e1,e2⟩:=eval_after (ops:=ops) hsi haf p3
     exact ⟨hC',(quiet hi (by rw [e2];exact qi)).2 ⟨v,by rw [e1,e2];exact hv,hK⟩⟩
 · have li:L.contains i=true:=by cases hb:L.contains i<;>simp_all
   have wi:Region.wanted oi (yielded ops a.tmps)=true:=by cases hb:Region.wanted oi (yielded ops a.tmps)<;>simp_all
   by_cases grow:isLoad oi=true/\(isAlloc oj=true/\ ∀ w ob,C w->C (w.alloc ob))/\L.contains j=true/\Region.wanted oj (yielded ops a.tmps)=true
   · obtain ⟨bi,⟨bj,hCa⟩,lj,wj⟩:=grow
     have h1:=(loud hi li wi).1 h
     unfold Oper.wp at h1
     cases hr:(execOp a.eval oi).run P w with
     |halt x w1=>rw [hr] at h1;cases x<;>simp only [Oper.upon,noExit] at h1
     |ok n w1=>
      obtain ⟨v,rfl,rfl⟩:=load_keeps bi a.eval hr
      rw [hr] at h1
      obtain ⟨_,h2⟩:=h1
      have h3:=(loud hj lj (by rw [wanted_put oj a oi.dst v p1];exact wj)).1 h2
      unfold Oper.wp at h3
      rw [execOp_put oj hsj a oi.dst v p1] at h3
      cases hr2:(execOp a.eval oj).run P w1 with
      |halt x w2=>rw [hr2] at h3;cases x<;>simp only [Oper.upon,noExit] at h3
      |ok n2 w2=>
       obtain ⟨u,ob,rfl,rfl⟩:=alloc_grows bj a.eval hr2
       rw [hr2] at h3
       obtain ⟨_,h4⟩:=h3
       refine (loud hj lj wj).2 ?_
       unfold Oper.wp
       rw [hr2]
       refine ⟨hCa _ _ hC,(loud hi li (by rw [wanted_put oi a oj.dst u p3];exact wi)).2 ?_⟩
       unfold Oper.wp
       rw [execOp_put oi hsi a oj.dst u p3,load_stays bi a.eval ob hr]
       refine ⟨hCa _ _ hC,?_⟩
       rw [<-Act.put_comm a v u p2]
       exact h4
   by_cases both:isLoad oi=true/\isLoad oj=true/\L.contains j=true/\Region.wanted oj (yielded ops a.tmps)=true
   · obtain ⟨bi,bj,lj,wj⟩:=both
     have h1:=(loud hi li wi).1 h
     unfold Oper.wp at h1
     cases hr:(execOp a.eval oi).run P w with
     |halt x w1=>rw [hr] at h1;cases x<;>simp only [Oper.upon,noExit] at h1
     |ok n w1=>
      obtain ⟨v,rfl,rfl⟩:=load_keeps bi a.eval hr
      rw [hr] at h1
      obtain ⟨_,h2⟩:=h1
      have h3:=(loud hj lj (by rw [wanted_put oj a oi.dst v p1];exact wj)).1 h2
      unfold Oper.wp at h3
      rw [execOp_put oj hsj a oi.dst v p1] at h3
      cases hr2:(execOp a.eval oj).run P w1 with
      |halt x w2=>rw [hr2] at h3;cases x<;>simp only [Oper.upon,noExit] at h3
      |ok n2 w2=>
       obtain ⟨u,rfl,rfl⟩:=load_keeps bj a.eval hr2
       rw [hr2] at h3
       obtain ⟨_,h4⟩:=h3
       refine (loud hj lj wj).2 ?_
       unfold Oper.wp
       rw [hr2]
       refine ⟨hC,(loud hi li (by rw [wanted_put oi a oj.dst u p3];exact wi)).2 ?_⟩
       unfold Oper.wp
       rw [execOp_put oi hsi a oj.dst u p3,hr]
       refine ⟨hC,?_⟩
       rw [<-Act.put_comm a v u p2]
       exact h4
   have qj:L.contains j=false\/Region.wanted oj (yielded ops a.tmps)=false:=by
    by_cases lj:L.contains j=false
    · exact .inl lj
    · by_cases wj:Region.wanted oj (yielded ops a.tmps)=false
      · exact .inr wj
      · exfalso
        rcases hq with (h1|h1)|h1
        · rw [li] at h1;cases h1
        · exact lj h1
        · rcases h1.2 with h2|h2
          · exact both ⟨h1.1,h2,by simpa using lj,by simpa using wj⟩
          · exact grow ⟨h1.1,h2,by simpa using lj,by simpa using wj⟩
   have h1:=wp_after ((loud hi li wi).1 h)
   obtain ⟨a1,w1,haf,hC1,hj1⟩:=wp_exists h1
   obtain ⟨e1,e2⟩:=eval_after (ops:=ops) hsj haf p1
   obtain ⟨u,hu,_⟩:=(quiet hj (by rw [e2];exact qj)).1 hj1
   rw [e1,e2] at hu
   refine (quiet hj qj).2 ⟨u,hu,(loud hi li (by rw [wanted_put oi a oj.dst u p3];exact wi)).2 (wp_put (ops:=ops) hsi p3 p2' (wp_monoQ (fun a' w'=>?_) h1))⟩
   rintro ⟨haf',hC',hK⟩
   obtain ⟨e3,e4⟩:=eval_after (ops:=ops) hsj haf' p1
   obtain ⟨u',hu',hK'⟩:=(quiet hj (by rw [e4];exact qj)).1 hK
   rw [e3,e4] at hu'
   have:u'=u:=by
    rcases hu with ⟨x1,x2⟩|⟨x1,x2⟩<;>rcases hu' with ⟨y1,y2⟩|⟨y1,y2⟩
    · exact gives_one (y2 w hC) (x2 w hC)
    · rw [x1] at y1;cases y1
    · rw [x1] at y1;cases y1
    · rw [x2,y2]
   subst this
   exact ⟨hC',hK'⟩
def anyL (P:Program) (ops:Array Oper) (C:World->Prop) (L:List Nat) (Q:Act->World->Prop):Nat->Array Bool->Act->World->Prop
 |0,listed,a,w=>Region.ready .any ops listed=[]/\Q a w
 |fuel+1,listed,a,w=>
  (Region.ready .any ops listed=[]->Q a w)/\
  ∀ i∈Region.ready .any ops listed,opL P ops C L i (anyL P ops C L Q fuel (listed.setIfInBounds i true)) a w
theorem opL_wpOp {i:Nat} {a:Act} {w:World} {K K':Act->World->Prop} {Q:Exit->Act->World->Prop} (hC:C w) (h: ∀ a w,C w->K a w->K' a w)
 (hh:opL P ops C L i K a w):wpOp P ops Q i K' a w:=by
 unfold opL at hh
 unfold wpOp
 split
 · rename_i ho;simp only [ho] at hh;exact h _ _ hC hh
 · rename_i o ho
   simp only [ho] at hh
   split
   · rename_i hw
     simp only [hw,if_true] at hh
     left
     unfold stepL at hh
     split at hh
     · exact wp_monoQ (fun a w hk=>h a w hk.1 hk.2) hh
     · obtain ⟨v,h1,h2⟩:=hh
       exact gives_wp (h1 w hC) (h _ _ hC h2)
   · rename_i hw;simp only [hw] at hh;exact h _ _ hC hh
theorem wpAny_of_anyL {Q':Act->World->Prop} {Q:Exit->Act->World->Prop} (hQ: ∀ a w,Q' a w->Q .normal a w): ∀ (fuel:Nat) (listed:Array Bool) (a:Act) (w:World),C w->
 anyL P ops C L Q' fuel listed a w->wpAny P .any ops Q fuel listed a w
 |0,_,_,_,_,h=>⟨h.1,hQ _ _ h.2⟩
 |fuel+1,_,_,_,hC,h=>⟨fun h0=>hQ _ _ (h.1 h0),fun i hi=>opL_wpOp hC (fun a' w' hC'=>wpAny_of_anyL hQ fuel _ a' w' hC') (h.2 i hi)⟩
def maskOf (b:Array Nat) (o:Oper):Nat:=o.after.toList.foldl (fun s e=>if Region.binds .any e then s|||(2 ^ e.on|||b.getD e.on 0) else s) 0
theorem foldl_bit (b:Array Nat) (i:Nat): ∀ (l:List Edge) (s:Nat),(l.foldl (fun s e=>if Region.binds .any e then s|||(2 ^ e.on|||b.getD e.on 0) else s) s).testBit i=true->
 s.testBit i=true\/ ∃ e∈l,Region.binds .any e=true/\(e.on=i\/(b.getD e.on 0).testBit i=true)
 |[],s,h=>.inl h
 |e::l,s,h=>by
  rw [List.foldl_cons] at h
  rcases foldl_bit b i l _ h with h|⟨e',he',h⟩
  · split at h
    · rename_i hb
      simp only [Nat.testBit_or,Bool.or_eq_true,Nat.testBit_two_pow,decide_eq_true_eq] at h
      rcases h with h|h|h
      · exact .inl h
      · exact .inr ⟨e,by simp,hb,.inl h⟩
      · exact .inr ⟨e,by simp,hb,.inr h⟩
    · exact .inl h
  · exact .inr ⟨e',by simp [he'],h⟩
def okMasks (ops:Array Oper) (b:Array Nat):Bool:=
 (List.range ops.size).all fun j=>match ops[j]? with
   |none=>true
   |some o=>b.getD j 0 == maskOf b o && o.after.toList.all (fun e=>!Region.binds .any e||decide (e.on<j))
def Closed (ops:Array Oper) (listed:Array Bool):Prop:=
 ∀ j o,ops[j]?=some o->listed.getD j false=true-> ∀ e∈o.after,Region.binds .any e=true->listed.getD e.on false=true
theorem listed_of_mask {b:Array Nat} (hb:okMasks ops b=true) {listed:Array Bool} (hc:Closed ops listed) (i:Nat): ∀ (n j:Nat) (o:Oper),j<=n->ops[j]?=some o->
 (∀ e∈o.after,Region.binds .any e=true->listed.getD e.on false=true)->(b.getD j 0).testBit i=true->listed.getD i false=true:=by
 intro n
 induction n with
 |zero=>
  intro j o hj ho hall hbit
  have hlt:j<ops.size:=(Array.getElem?_eq_some_iff.1 ho).1
  have h:=List.all_eq_true.1 hb j (List.mem_range.2 hlt)
  simp only [ho,Bool.and_eq_true,beq_iff_eq,List.all_eq_true,Bool.or_eq_true,Bool.not_eq_true',decide_eq_true_eq] at h
  rw [h.1] at hbit
  rcases foldl_bit b i _ _ hbit with h0|⟨e,he,hbd,h0⟩
  · simp at h0
  · have:=(h.2 e he).resolve_left (by simp [hbd]);omega
 |succ n ih=>
  intro j o hj ho hall hbit
  have hlt:j<ops.size:=(Array.getElem?_eq_some_iff.1 ho).1
  have h:=List.all_eq_true.1 hb j (List.mem_range.2 hlt)
  simp only [ho,Bool.and_eq_true,beq_iff_eq,List.all_eq_true,Bool.or_eq_true,Bool.not_eq_true',decide_eq_true_eq] at h
  rw [h.1] at hbit
  rcases foldl_bit b i _ _ hbit with h0|⟨e,he,hbd,h0⟩
  · simp at h0
  · have hle:=(h.2 e he).resolve_left (by simp [hbd])
    have hl:=hall e (Array.mem_toList_iff.1 he) hbd
    rcases h0 with h0|h0
    · rw [<-h0];exact hl
    · have hlt':e.on<ops.size:=by omega
      exact ih e.on ops[e.on] (by omega) (by simp [hlt']) (hc e.on _ (by simp [hlt']) hl) h0
def pairOk (ops:Array Oper) (b:Array Nat) (L:List Nat) (i j:Nat):Bool:=
 i == j||(b.getD j 0).testBit i||(b.getD i 0).testBit j||
   (match ops[i]?,ops[j]? with|some oi,some oj=>oi.apart ops oj && ((!L.contains i||!L.contains j)||(isLoad oi && (isLoad oj||isAlloc oj)))|_,_=>true)
def lexOk (ops:Array Oper) (L:List Nat):Bool:=
 Region.noSelect ops && okMasks ops (Region.before ops) &&
  (List.range ops.size).all fun i=>(List.range ops.size).all fun j=>decide (j<=i)||pairOk ops (Region.before ops) L i j
theorem closed_set {listed:Array Bool} {i:Nat} (hc:Closed ops listed) (hr:i∈Region.ready .any ops listed):Closed ops (listed.setIfInBounds i true):=by
 intro j o ho hl e he hb
 by_cases hij:i=j
 · subst hij
   obtain ⟨_,o',ho',hall⟩:=mem_ready.1 hr
   rw [ho] at ho'
   injection ho' with ho'
   subst ho'
   exact getD_set_true (hall e he hb)
 · rw [getD_set_ne false hij] at hl
   exact getD_set_true (hc j o ho hl e he hb)
theorem anyL_first {Q:Act->World->Prop} {i:Nat} {oi:Oper} (hi:ops[i]?=some oi) (hsel: ∀ (j:Nat) (o:Oper) cs b,ops[j]?=some o->o.op≠.select cs b)
 {b:Array Nat} (hb:okMasks ops b=true) (hCa: ∀ w ob,C w->C (w.alloc ob)) (hp: ∀ j,i<j->j<ops.size->pairOk ops b L i j=true):
 ∀ (fuel:Nat) (listed:Array Bool) (a:Act) (w:World),C w->Closed ops listed->(∀ j,j<i->listed.getD j true=true)->i∈Region.ready .any ops listed->
   opL P ops C L i (anyL P ops C L Q fuel (listed.setIfInBounds i true)) a w->anyL P ops C L Q (fuel+1) listed a w:=by
 have exist: ∀ {K:Act->World->Prop} {a:Act} {w:World},opL P ops C L i K a w-> ∃ a' w',K a' w':=by
  intro K a w h
  unfold opL at h
  simp only [hi] at h
  split at h
  · unfold stepL at h
    split at h
    · obtain ⟨a',w',_,h⟩:=wp_exists h;exact ⟨a',w',h⟩
    · obtain ⟨v,_,h⟩:=h;exact ⟨_,_,h⟩
  · exact ⟨_,_,h⟩
 intro fuel
 induction fuel with
 |zero=>
  intro listed a w hC hcl hel hr H
  refine ⟨fun h=>(by rw [h] at hr;cases hr),fun j hj=>?_⟩
  by_cases hji:j=i
  · subst hji;exact H
  · obtain ⟨a',w',h0,_⟩:=exist H
    have:=ready_mono hj hji
    rw [h0] at this
    cases this
 |succ fuel ih=>
  intro listed a w hC hcl hel hr H
  refine ⟨fun h=>(by rw [h] at hr;cases hr),fun j hj=>?_⟩
  by_cases hji:j=i
  · subst hji;exact H
  · obtain ⟨hjun,oj,hoj,hall⟩:=mem_ready.1 hj
    obtain ⟨hiun,oi',hoi',halli⟩:=mem_ready.1 hr
    have hlt:j<ops.size:=(Array.getElem?_eq_some_iff.1 hoj).1
    have contra: ∀ {k:Nat} {o:Oper},ops[k]?=some o->listed.getD k true=false->listed.getD k false=true->False:=by
     intro k o ho h1 h2
     rcases Nat.lt_or_ge k listed.size with h'|h'
     · simp [h'] at h1 h2;rw [h1] at h2;cases h2
     · simp [Array.getElem?_eq_none h'] at h2
    have hij:i<j:=by
     rcases Nat.lt_or_ge j i with h|h
     · have:=hel j h;rw [hjun] at this;cases this
     · omega
    have hpair:=hp j hij hlt
    simp only [pairOk,Bool.or_eq_true,beq_iff_eq,hi,hoj,Bool.and_eq_true,Bool.not_eq_true'] at hpair
    have hgood:oi.apart ops oj=true/\((L.contains i=false\/L.contains j=false)\/(isLoad oi=true/\(isLoad oj=true\/isAlloc oj=true))):=by
     rcases hpair with ((h|h)|h)|h
     · exact absurd h.symm hji
     · exact (contra hi hiun (listed_of_mask hb hcl i j j oj (Nat.le_refl _) hoj hall h)).elim
     · rw [hi] at hoi'
       injection hoi' with hoi'
       subst hoi'
       exact (contra hoj hjun (listed_of_mask hb hcl j i i oi (Nat.le_refl _) hi halli h)).elim
     · exact h
    have H':opL P ops C L i (opL P ops C L j (anyL P ops C L Q fuel ((listed.setIfInBounds i true).setIfInBounds j true))) a w:=
     opL_mono hC (fun a' w' _ hh=>hh.2 j (ready_mono hj hji)) H
    have H2:=swap hi hoj (fun cs b=>hsel i oi cs b hi) (fun cs b=>hsel j oj cs b hoj) hgood.1 (hgood.2.imp id fun h=>⟨h.1,h.2.imp id fun h=>⟨h,hCa⟩⟩) hC H'
    refine opL_mono hC (fun a' w' hC' h3=>ih (listed.setIfInBounds j true) a' w' hC' (closed_set hcl hj) (fun q hq=>by
     by_cases hqj:j=q
     · subst hqj
       rcases Nat.lt_or_ge j listed.size with h'|h'<;>simp [h']
     · rw [getD_set_ne true hqj];exact hel q hq) (ready_mono hr (Ne.symm hji)) ?_) H2
    rw [Array.setIfInBounds_comm _ _ hji]
    exact h3
theorem anyL_lex {Q:Act->World->Prop} (hsel:Region.noSelect ops=true) (hb:okMasks ops (Region.before ops)=true) (hCa: ∀ w ob,C w->C (w.alloc ob))
 (hp: ∀ i,i<ops.size-> ∀ j,i<j->j<ops.size->pairOk ops (Region.before ops) L i j=true):
 ∀ (l:List Oper) (k:Nat) (listed:Array Bool) (a:Act) (w:World),C w->(∀ j,l[j]?=ops[k+j]?)->Closed ops listed->listed.size=ops.size->
   (∀ j,j<ops.size->(listed.getD j false=true ↔ j<k))->wpLex P ops C L Q k l a w->anyL P ops C L Q l.length listed a w
 |[],k,listed,a,w,_,hl,_,hsz,hls,h=>by
  refine ⟨?_,h⟩
  have hk:ops.size<=k:=by
   have:=hl 0
   simp at this
   exact this
  cases hr:Region.ready .any ops listed with
  |nil=>rfl
  |cons x xs=>
   have hx:x∈Region.ready .any ops listed:=by rw [hr];simp
   obtain ⟨h0,o,ho,_⟩:=mem_ready.1 hx
   have hlt:x<ops.size:=(Array.getElem?_eq_some_iff.1 ho).1
   have:=(hls x hlt).2 (by omega)
   have hlt':x<listed.size:=by omega
   simp [hlt'] at h0 this
   rw [h0] at this
   cases this
 |o::l,k,listed,a,w,hC,hl,hcl,hsz,hls,h=>by
  have h0:ops[k]?=some o:=by simpa using (hl 0).symm
  have hlt:k<ops.size:=(Array.getElem?_eq_some_iff.1 h0).1
  have hready:k∈Region.ready .any ops listed:=by
   refine mem_ready.2 ⟨?_,o,h0,fun e he hbd=>?_⟩
   · have h1: ¬ listed.getD k false=true:=fun h'=>by have:=(hls k hlt).1 h';omega
     have hlt':k<listed.size:=by omega
     simp [hlt'] at h1 ⊢
     exact h1
   · have hm:=List.all_eq_true.1 hb k (List.mem_range.2 hlt)
     simp only [h0,Bool.and_eq_true,beq_iff_eq,List.all_eq_true,Bool.or_eq_true,Bool.not_eq_true',decide_eq_true_eq] at hm
     have hle:=(hm.2 e (Array.mem_toList_iff.2 he)).resolve_left (by simp [hbd])
     exact (hls e.on (by omega)).2 hle
  refine anyL_first h0 (Region.noSelect_spec hsel) hb hCa (hp k hlt) l.length listed a w hC hcl (fun j hj=>by
   have h1:=(hls j (by omega)).2 hj
   rcases Nat.lt_or_ge j listed.size with h'|h'
   · simp [h'] at h1 ⊢;exact h1
   · simp [h']) hready ?_
  have hst:opL P ops C L k (wpLex P ops C L Q (k+1) l) a w:=by unfold opL;simp only [h0];exact h
  refine opL_mono hC (fun a' w' hC' h'=>anyL_lex hsel hb hCa hp l (k+1) _ a' w' hC' (fun j=>by have:=hl (j+1);simpa [Nat.add_assoc,Nat.add_comm 1 j] using this)
   (closed_set hcl hready) (by simpa using hsz) (fun j hj=>?_) h') hst
  by_cases hjk:k=j
  · subst hjk
    have hlt':k<listed.size:=by omega
    simp [hlt']
  · rw [getD_set_ne false hjk,hls j hj];omega
abbrev regAny (P:Program) (l:List Oper) (Q:Exit->Act->World->Prop) (a:Act) (w:World):Prop:=wpAny P .any l.toArray Q l.toArray.size (Array.replicate l.toArray.size false) a w.drew
theorem any_region_lex {Q:Exit->Act->World->Prop} {a:Act} {w:World} {l:List Oper} (L:List Nat) (C:World->Prop)
 (hB:lexOk l.toArray L=true) (hC:C w.drew) (hCa: ∀ w ob,C w->C (w.alloc ob)) (h:wpLex P l.toArray C L (fun a w=>Q .normal a w) 0 l a w.drew):regAny P l Q a w:=by
 simp only [lexOk,Bool.and_eq_true,List.all_eq_true,List.mem_range,Bool.or_eq_true,decide_eq_true_eq] at hB
 obtain ⟨⟨h1,h2⟩,h3⟩:=hB
 refine wpAny_of_anyL (C:=C) (L:=L) (Q':=fun a w=>Q .normal a w) (fun _ _ h=>h) _ _ _ _ hC ?_
 have:=anyL_lex (P:=P) (C:=C) (Q:=fun a w=>Q .normal a w) h1 h2 hCa (fun i hi j hij hj=>(h3 i hi j hj).resolve_left (by omega)) l 0 (Array.replicate l.toArray.size false) a w.drew hC (by simp) (by
  intro j o _ hl
  simp only [Array.getD_eq_getD_getElem?,Array.getElem?_replicate] at hl
  split at hl<;>simp at hl) (by simp) (by
  intro j hj
  simp only [Array.getD_eq_getD_getElem?,Array.getElem?_replicate]
  split<;>simp) h
 simpa using this
end
end Go.Sk
namespace Go.Sk
open Go
def OkDet {α:Type} (P:Program) (s:Sem α):Prop:= ∀ w v w',s.run P w=.ok v w'-> ∀ w2,s.run P w2=.ok v w2
section
variable {P:Program} {α β:Type}
theorem OkDet.pure (a:α):OkDet P (Pure.pure a:Sem α):=by
 intro w v w' h w2
 simp only [Sem.run_pure] at h ⊢
 injection h with h1 h2
 rw [h1]
theorem OkDet.pure' (a:α):OkDet P (Sem.pure a):=OkDet.pure a
theorem OkDet.bind {s:Sem α} {f:α->Sem β} (hs:OkDet P s) (hf: ∀ a,OkDet P (f a)):OkDet P (s>>=f):=by
 intro w v w' h w2
 rw [Sem.run_bind] at h ⊢
 cases hr:s.run P w with
 |ok a w1=>
  rw [hr] at h
  rw [hs w a w1 hr w2]
  exact hf a w1 v w' h w2
 |halt x w1=>rw [hr] at h;cases h
theorem OkDet.bind' {s:Sem α} {f:α->Sem β} (hs:OkDet P s) (hf: ∀ w a w',s.run P w=.ok a w'->OkDet P (f a)):OkDet P (s>>=f):=by
 intro w v w' h w2
 rw [Sem.run_bind] at h ⊢
 cases hr:s.run P w with
 |ok a w1=>
  rw [hr] at h
  rw [hs w a w1 hr w2]
  exact hf w a w1 hr w1 v w' h w2
 |halt x w1=>rw [hr] at h;cases h
theorem OkDet.map {s:Sem α} (f:α->β) (hs:OkDet P s):OkDet P (f<$>s):=OkDet.bind hs fun a=>OkDet.pure' (f a)
theorem OkDet.halt (h:Halt):OkDet P (Sem.halt h:Sem α):=by intro w v w' hr;cases hr
theorem OkDet.stuck (m:String):OkDet P (stuck m:Sem α):=OkDet.halt _
theorem OkDet.unsupported (u:Unsupported):OkDet P (unsupported u:Sem α):=OkDet.halt _
theorem OkDet.program:OkDet P program:=by
 intro w v w' h w2
 have h':Result.ok P w=Result.ok v w':=h
 injection h' with h1 h2
 subst h1
 rfl
theorem OkDet.never {s:Sem α} (h: ∀ w v w',s.run P w≠.ok v w'):OkDet P s:=fun w v w' hr=>absurd hr (h w v w')
theorem OkDet.boundsPanic (k:IntKind) (x y:Int) (c:BoundsCode):OkDet P (boundsPanic k x y c:Sem α):=by
 refine .never fun w v w' h=>?_
 obtain ⟨s,w1,hr⟩:=run_boundsPanic (α:=α) (P:=P) (w:=w) k x y c
 rw [hr] at h
 cases h
theorem OkDet.ite (c:Prop) [Decidable c] {s t:Sem α} (hs:c->OkDet P s) (ht: ¬ c->OkDet P t):OkDet P (if c then s else t):=by
 split
 · exact hs ‹_›
 · exact ht ‹_›
theorem never_bind {s:Sem α} {f:α->Sem β} (hf: ∀ a w v w',(f a).run P w≠.ok v w'): ∀ w v w',(s>>=f).run P w≠.ok v w':=by
 intro w v w' h
 rw [Sem.run_bind] at h
 cases hr:s.run P w with
 |ok a w1=>rw [hr] at h;exact hf a w1 v w' h
 |halt x w1=>rw [hr] at h;cases h
theorem never_panic (x:Value): ∀ w v w',(goPanic x:Sem α).run P w≠.ok v w':=by
 intro w v w' h;cases h
theorem OkDet.runtimePanic (e:RuntimeError):OkDet P (runtimePanic e:Sem α):=by
 refine .never ?_
 unfold Go.runtimePanic
 refine never_bind fun p=>?_
 cases e<;>first
  |exact never_panic _
  |exact never_bind fun _=>never_bind fun _=>never_panic _
theorem OkDet.info (t:TypeId):OkDet P (typeInfo t):=by
 unfold typeInfo
 refine .bind .program fun p=>?_
 split
 · exact .pure _
 · exact .stuck _
theorem OkDet.und (t:TypeId):OkDet P (underlying t):=by
 unfold underlying
 refine .bind .program fun p=>?_
 split
 · exact .pure _
 · exact .stuck _
theorem OkDet.sizeOf (t:TypeId):OkDet P (sizeOf t):=.bind (.info t) fun _=>.pure _
theorem OkDet.zeroValue (t:TypeId):OkDet P (zeroValue t):=by
 unfold Go.zeroValue
 refine .bind (.info t) fun i=>?_
 split
 · exact .pure _
 · exact .unsupported _
theorem OkDet.isAgg (t:TypeId):OkDet P (isAgg t):=by
 unfold Go.isAgg
 refine .bind (.und t) fun d=>?_
 split<;>exact .pure _
theorem OkDet.part (t:TypeId) (cs:Array Value) (off:Nat):OkDet P (part t cs off):=by
 unfold Go.part
 refine .bind (.isAgg t) fun b=>?_
 split
 · exact .bind (.sizeOf t) fun _=>.pure _
 · split
   · exact .pure _
   · exact .stuck _
theorem OkDet.asIntOf (v:Value):OkDet P (asIntOf v):=by
 unfold Go.asIntOf
 split
 · exact .pure _
 · exact .unsupported _
 · exact .stuck _
theorem OkDet.asAgg (v:Value):OkDet P (asAgg v):=by
 unfold Go.asAgg
 split
 · exact .pure _
 · exact .stuck _
theorem OkDet.asBool (v:Value):OkDet P (asBool v):=by
 unfold Go.asBool
 split
 · exact .pure _
 · exact .stuck _
theorem OkDet.asAddr (v:Value):OkDet P (asAddr v):=by
 unfold Go.asAddr
 split
 · exact .pure _
 · exact .runtimePanic _
 · exact .stuck _
theorem OkDet.sureAddr (v:Value):OkDet P (Instr.sureAddr v):=by
 unfold Instr.sureAddr
 split
 · exact .pure _
 · exact .stuck _
theorem OkDet.mapM {γ δ:Type} (f:γ->Sem δ) (hf: ∀ x,OkDet P (f x)): ∀ (l:List γ),OkDet P (l.mapM f)
 |[]=>by rw [List.mapM_nil];exact .pure _
 |x::l=>by rw [List.mapM_cons];exact .bind (hf x) fun _=>.bind (OkDet.mapM f hf l) fun _=>.pure _
theorem OkDet.mapMA {γ δ:Type} (f:γ->Sem δ) (hf: ∀ x,OkDet P (f x)) (a:Array γ):OkDet P (a.mapM f):=by
 rw [Array.mapM_eq_mapM_toList]
 exact .map _ (.mapM f hf _)
theorem OkDet.fieldAt (s:TypeId) (x:Value) (f:Nat) (hs:((P.underlying s).bind fun d=>match d with|.struct fs=>fs[f]?|_=>none).all (fun fd=>((P.info? fd.type).map (·.size)).all (· !=0))=true):OkDet P (Instr.fieldAt s x f):=by
 unfold Instr.fieldAt
 refine .bind' (.und s) fun w d w' hd=>?_
 have hd':P.underlying s=some d:=by
  simp only [underlying,Sem.run_bind] at hd
  have hp:(Go.program).run P w=Result.ok P w:=rfl
  rw [hp] at hd
  simp only [Result.andThen_ok] at hd
  split at hd
  · rename_i d' hd';simp only [Sem.run_pure] at hd;injection hd with h1;rw [<-h1];exact hd'
  · cases hd
 split
 · rename_i fields
   split
   · rename_i fd hf
     refine .bind (.sureAddr x) fun a=>.bind ?_ fun _=>.pure _
     unfold fieldPlace
     refine .bind' (.sizeOf _) fun w n w' hn=>?_
     have hn':n≠0:=by
      rw [hd'] at hs
      simp only [Option.bind_some,hf,Option.all_some] at hs
      simp only [Go.sizeOf,typeInfo,Sem.run_bind] at hn
      have hp:(Go.program).run P w=Result.ok P w:=rfl
      rw [hp] at hn
      simp only [Result.andThen_ok] at hn
      split at hn
      · rename_i i hi
        simp only [Sem.run_pure,Result.andThen_ok] at hn
        injection hn with h1
        rw [hi] at hs
        simp at hs
        rw [<-h1]
        exact hs
      · cases hn
     rw [if_neg hn']
     exact .pure _
   · exact .stuck _
 · exact .stuck _
theorem OkDet.indexAt (t:TypeId) (x i:Value):OkDet P (Instr.indexAt t x i):=by
 unfold Instr.indexAt
 refine .bind (.asIntOf _) fun ki=>?_
 refine .bind (.und t) fun d=>?_
 dsimp only
 split
 · refine .bind (.sureAddr _) fun a=>.bind (.pure _) fun x=>.bind (.und t) fun d2=>?_
   split
   · exact .ite _ (fun _=>.bind (.sizeOf _) fun _=>.pure _) fun _=>.ite _ (fun _=>.unsupported _) fun _=>.boundsPanic _ _ _ _
   · exact .boundsPanic _ _ _ _
 · refine .bind (.pure _) fun x=>.bind (.und t) fun d2=>?_
   split
   · exact .ite _ (fun _=>.bind (.sizeOf _) fun _=>.pure _) fun _=>.ite _ (fun _=>.unsupported _) fun _=>.boundsPanic _ _ _ _
   · exact .boundsPanic _ _ _ _
 · refine .bind (.stuck _) fun x=>.bind (.und t) fun d2=>?_
   split
   · exact .ite _ (fun _=>.bind (.sizeOf _) fun _=>.pure _) fun _=>.ite _ (fun _=>.unsupported _) fun _=>.boundsPanic _ _ _ _
   · exact .boundsPanic _ _ _ _
theorem OkDet.index (t:TypeId) (x i:Value):OkDet P (Instr.index t x i):=by
 unfold Instr.index
 refine .bind (.asIntOf _) fun ki=>.bind (.und t) fun d=>?_
 split
 · refine .ite _ (fun _=>.bind (.sizeOf _) fun _=>.part _ _ _) fun _=>.boundsPanic _ _ _ _
 · split
   · exact .pure _
   · exact .boundsPanic _ _ _ _
 · exact .stuck _
theorem OkDet.field (t:TypeId) (x:Value) (f:Nat):OkDet P (Instr.field t x f):=by
 unfold Instr.field
 refine .bind (.und t) fun d=>?_
 split
 · split
   · exact .bind (.asAgg x) fun _=>.part _ _ _
   · exact .stuck _
 · exact .stuck _
theorem OkDet.extract (x:Value) (i:Nat):OkDet P (Instr.extract x i):=by
 unfold Instr.extract
 split
 · split
   · exact .pure _
   · exact .stuck _
 · exact .stuck _
theorem OkDet.build (t:TypeId) (ps:Array (Nat×Value)):OkDet P (Instr.build t ps):=by
 unfold Instr.build
 refine .bind (.zeroValue t) fun z=>.bind (.und t) fun d=>?_
 split
 · refine .bind (.mapMA _ (fun f=>.bind (.sizeOf _) fun _=>.pure _) _) fun _=>?_
   split
   · exact .pure _
   · exact .stuck _
 · refine .bind (.sizeOf _) fun n=>?_
   split
   · exact .pure _
   · exact .stuck _
 · exact .stuck _
theorem OkDet.sliceBound (x:Value) (y:Nat) (c:BoundsCode):OkDet P (Instr.sliceBound x y c):=by
 unfold Instr.sliceBound
 exact .bind (.asIntOf _) fun ki=>.ite _ (fun _=>.pure _) fun _=>.boundsPanic _ _ _ _
theorem OkDet.sliceBounds (s:Bool) (len cap:Nat) (lo hi mx:Option Value):OkDet P (Instr.sliceBounds s len cap lo hi mx):=by
 have rest: ∀ (m h:Nat),OkDet P (do
  let l<-match lo with
   |some v=>Go.Instr.sliceBound v h (if mx.isSome then .slice3C else .sliceB)
   |none=>Pure.pure 0
  Pure.pure (l,h,m):Sem (Nat×Nat×Nat)):=by
  intro m h
  cases lo with
  |none=>exact .bind (.pure _) fun _=>.pure _
  |some v=>exact .bind (OkDet.sliceBound _ _ _) fun _=>.pure _
 unfold Instr.sliceBounds
 cases mx with
 |none=>
  refine .bind (.pure _) fun m=>?_
  cases hi with
  |none=>exact .bind (.pure _) fun h=>rest m h
  |some v=>exact .bind (OkDet.sliceBound _ _ _) fun h=>rest m h
 |some v=>
  refine .bind (OkDet.sliceBound _ _ _) fun m=>?_
  cases hi with
  |none=>exact .bind (.stuck _) fun h=>rest m h
  |some v=>exact .bind (OkDet.sliceBound _ _ _) fun h=>rest m h
theorem OkDet.slice (t:TypeId) (x:Value) (lo hi mx:Option Value):OkDet P (Instr.slice t x lo hi mx):=by
 unfold Instr.slice
 refine .bind (.und t) fun d=>?_
 split
 · split
   · refine .bind (.stuck _) fun _=>?_
     exact .bind (.sliceBounds _ _ _ _ _ _) fun _=>.pure _
   · exact .bind (.sliceBounds _ _ _ _ _ _) fun _=>.pure _
 · exact .bind (.sliceBounds _ _ _ _ _ _) fun _=>.bind (.sizeOf _) fun _=>.pure _
 · refine .bind (.asAddr _) fun a=>.bind (.und _) fun d=>?_
   split
   · exact .bind (.sliceBounds _ _ _ _ _ _) fun _=>.bind (.sizeOf _) fun _=>.pure _
   · exact .stuck _
 · exact .stuck _
theorem OkDet.sliceAt (t:TypeId) (x:Value) (lo hi mx:Option Value):OkDet P (Instr.sliceAt t x lo hi mx):=by
 unfold Instr.sliceAt
 refine .bind (.und t) fun d=>?_
 split
 · exact .bind (.sureAddr _) fun _=>.bind (.sliceBounds _ _ _ _ _ _) fun _=>.bind (.sizeOf _) fun _=>.pure _
 · exact .slice _ _ _ _ _
theorem OkDet.intArith (op:BinOp) (k:IntKind) (x y:Int):OkDet P (Op.intArith op k x y):=by
 unfold Op.intArith;split<;>first|exact .pure _|exact .stuck _
theorem OkDet.intCmp (op:BinOp) (x y:Int):OkDet P (Op.intCmp op x y):=by
 unfold Op.intCmp;split<;>first|exact .pure _|exact .stuck _
theorem OkDet.intDiv (op:BinOp) (k:IntKind) (x y:Int):OkDet P (Op.intDiv op k x y):=by
 unfold Op.intDiv;exact .ite _ (fun _=>.runtimePanic _) fun _=>by split<;>first|exact .pure _|exact .stuck _
theorem OkDet.stringOp (op:BinOp) (x y:ByteArray):OkDet P (Op.stringOp op x y):=by
 unfold Op.stringOp
 simp only []
 split<;>first|exact .pure _|exact .stuck _|exact .ite _ (fun _=>.unsupported _) fun _=>.pure _
end
def eqOp:BinOp->Bool|.eql|.neq=>true|_=>false
def plainOp:BinOp->Bool|.add|.sub|.mul|.quo|.rem|.eql|.neq|.lss|.leq|.gtr|.geq=>true|_=>false
def binShape (op:BinOp) (x y:Value):Bool:=
 match x,y with
 |.int ..,.int ..=>true
 |.string _,.string _=>true
 |.bool _,.bool _=>eqOp op
 |.pointer none,.pointer _=>eqOp op
 |.pointer (some _),.pointer none=>eqOp op
 |.slice none _ _,.slice _ _ _=>eqOp op
 |.slice (some _) _ _,.slice none _ _=>eqOp op
 |_,_=>false
def quietCallee:Callee->Bool
 |.builtin b=>(match b with|.len|.cap|.min|.max=>true|_=>false)
 |_=>false
def isInt:Value->Bool|.int ..=>true|_=>false
def isLong:Value->Bool|.slice ..=>true|.string _=>true|_=>false
def callShape (c:Callee) (args:Array Value):Bool:=
 match c with
 |.builtin b=>(match b with|.len|.cap=>(args[0]?).all isLong|.min|.max=>args.toList.all isInt|_=>true)
 |_=>true
def flatTy (P:Program) (t:TypeId):Bool:=match P.underlying t with|some (.struct _)|some (.array ..)|some (.interface _)|none=>false|_=>true
def quietKind (P:Program) (o:Oper):Bool:=
 match o.op with
 |.move _|.assign _|.pick ..|.build ..|.indexAddr ..|.index ..|.field ..|.extract ..|.slice ..|.nilCheck _|.makeFunc ..=>true
 |.fieldAddr s _ f=>((P.underlying s).bind fun d=>match d with|.struct fs=>fs[f]?|_=>none).all (fun fd=>((P.info? fd.type).map (·.size)).all (· !=0))
 |.binOp op t _ _ _=>plainOp op && (!eqOp op||flatTy P t)
 |.unOp op _ _=>(match op with|.not|.neg=>true|_=>false)
 |.call c=>quietCallee c.callee
 |_=>false
def quietAt (o:Oper) (ρ:Operand->Value):Bool:=
 match o.op with
 |.nilCheck x=>(match ρ x with|.pointer _=>true|.func (.func _) _ _=>true|.nilFunc=>true|_=>false)
 |.binOp op _ x y _=>binShape op (ρ x) (ρ y)
 |.unOp _ _ x=>(match ρ x with|.int ..=>true|.bool _=>true|_=>false)
 |.call c=>callShape c.callee (c.args.map ρ)
 |_=>true
def ValDet (P:Program) (s:Sem Next):Prop:= ∀ w v w',s.run P w=.ok (.value v) w'-> ∀ w2,s.run P w2=.ok (.value v) w2
section
variable {P:Program}
theorem ValDet.of (s:Sem Next) (h:OkDet P s):ValDet P s:=fun w _ w' hr=>h w _ w' hr
theorem ValDet.v {s:Sem Value} (h:OkDet P s):ValDet P (do pure (.value (<-s))):=.of _ (.bind h fun _=>.pure _)
theorem okDet_equal (t:TypeId) (x y:Value) (h:(match x,y with
 |.bool _,.bool _=>true|.pointer none,.pointer _=>true|.pointer (some _),.pointer none=>true|.slice none _ _,.slice _ _ _=>true|.slice (some _) _ _,.slice none _ _=>true|_,_=>false)=true):OkDet P (Op.equal t x y):=by
 unfold Op.equal Op.maxDepth
 show OkDet P (Op.equalIn (9999+1) t x y)
 unfold Op.equalIn
 refine .bind (.und t) fun d=>?_
 split at h<;>first
  |(cases d<;>first|exact .pure _|exact .stuck _|exact .unsupported _)
  |simp at h
theorem okDet_guard (op:BinOp) (t:TypeId) (X Y:Operand) (x y:Value) (h1: ∀ a b,¬ (x=.nilIface/\y=.nilIface)/\ ¬ (x=.agg a/\y=.agg b)):OkDet P (eqGuard op t X Y x y):=by
 unfold eqGuard
 refine .ite _ (fun _=>.pure _) fun _=>?_
 split
 · exact absurd ⟨rfl,rfl⟩ (h1 #[] #[]).1
 · exact absurd ⟨rfl,rfl⟩ (h1 _ _).2
 · exact .pure _
theorem okDet_int (op:BinOp) (t:TypeId) (X Y:Operand) (k k':IntKind) (a b:Int) (ho:plainOp op=true):OkDet P (do eqGuard op t X Y (.int k a) (.int k' b);binOp op t (.int k a) (.int k' b)):=by
 refine .bind (okDet_guard _ _ _ _ _ _ (by simp)) fun _=>?_
 unfold binOp
 cases op<;>first
  |(cases ho;done)
  |(refine .ite _ (fun _=>.stuck _) fun _=>?_;first|exact .intArith _ _ _ _|exact .intDiv _ _ _ _|exact .intCmp _ _ _)
theorem okDet_string (op:BinOp) (t:TypeId) (X Y:Operand) (a b:ByteArray) (ho:plainOp op=true):OkDet P (do eqGuard op t X Y (.string a) (.string b);binOp op t (.string a) (.string b)):=by
 refine .bind (okDet_guard _ _ _ _ _ _ (by simp)) fun _=>?_
 unfold binOp
 cases op<;>first
  |(cases ho;done)
  |exact .stringOp _ _ _
theorem okDet_eq (op:BinOp) (t:TypeId) (X Y:Operand) (x y:Value) (ho:eqOp op=true) (h:(match x,y with
 |.bool _,.bool _=>true|.pointer none,.pointer _=>true|.pointer (some _),.pointer none=>true|.slice none _ _,.slice _ _ _=>true|.slice (some _) _ _,.slice none _ _=>true|_,_=>false)=true):
 OkDet P (do eqGuard op t X Y x y;binOp op t x y):=by
 refine .bind (okDet_guard _ _ _ _ _ _ ?_) fun _=>?_
 · intro a b
   refine ⟨?_,?_⟩<;>(rintro ⟨rfl,rfl⟩;simp at h)
 · have he:=okDet_equal (P:=P) t x y h
   unfold binOp
   cases op<;>first
    |(cases ho;done)
    |(split at h<;>first|exact .bind he fun _=>.pure _|simp at h)
set_option maxHeartbeats 4000000 in
theorem okDet_binOp (op:BinOp) (t:TypeId) (X Y:Operand) (x y:Value) (ho:plainOp op=true) (h:binShape op x y=true):OkDet P (do eqGuard op t X Y x y;binOp op t x y):=by
 cases x<;>cases y<;>first
  |exact okDet_int _ _ _ _ _ _ _ _ ho
  |exact okDet_string _ _ _ _ _ _ ho
  |(simp [binShape] at h;done)
  |exact okDet_eq _ _ _ _ _ _ (by simpa [binShape] using h) rfl
  |(rename_i p q;cases p<;>cases q<;>first|exact okDet_eq _ _ _ _ _ _ (by simpa [binShape] using h) rfl|(simp [binShape] at h;done))
  |(rename_i p _ _ q _ _;cases p<;>cases q<;>first|exact okDet_eq _ _ _ _ _ _ (by simpa [binShape] using h) rfl|(simp [binShape] at h;done))
theorem okDet_len (ts:Array TypeId) (t:TypeId) (args:Array Value) (h:(args[0]?).all isLong=true):OkDet P (Builtin.len_ ts t args):=by
 unfold Builtin.len_
 cases h0:ts[0]? with
 |none=>exact .stuck _
 |some t0=>
  cases h1:args[0]? with
  |none=>exact .stuck _
  |some x=>
   rw [h1] at h
   simp only []
   refine .bind (.und _) fun d=>?_
   cases x<;>simp [isLong] at h
   · cases d<;>simp only []<;>first|exact .pure _|exact .stuck _|(refine .bind (.und _) fun d'=>?_;split<;>first|exact .pure _|exact .bind (.stuck _) fun _=>.pure _|exact .stuck _)
   · cases d<;>simp only []<;>first|exact .pure _|exact .stuck _|(refine .bind (.und _) fun d'=>?_;split<;>first|exact .pure _|exact .bind (.stuck _) fun _=>.pure _|exact .stuck _)
theorem okDet_cap (ts:Array TypeId) (t:TypeId) (args:Array Value) (h:(args[0]?).all isLong=true):OkDet P (Builtin.cap_ ts t args):=by
 unfold Builtin.cap_
 cases h0:ts[0]? with
 |none=>exact .stuck _
 |some t0=>
  cases h1:args[0]? with
  |none=>exact .stuck _
  |some x=>
   rw [h1] at h
   simp only []
   refine .bind (.und _) fun d=>?_
   cases x<;>simp [isLong] at h
   · cases d<;>simp only []<;>first|exact .pure _|exact .stuck _|(refine .bind (.und _) fun d'=>?_;split<;>first|exact .pure _|exact .bind (.stuck _) fun _=>.pure _|exact .stuck _)
   · cases d<;>simp only []<;>first|exact .pure _|exact .stuck _|(refine .bind (.und _) fun d'=>?_;split<;>first|exact .pure _|exact .bind (.stuck _) fun _=>.pure _|exact .stuck _)
theorem okDet_foldInt (f:Value->Value->Sem Value) (hf: ∀ k a k' b,∃ n,f (.int k a) (.int k' b)=Pure.pure (.int k n)): ∀ (l:List Value) (x:Value),isInt x=true->l.all isInt=true->OkDet P (l.foldlM f x)
 |[],x,_,_=>by rw [List.foldlM_nil];exact .pure _
 |y::l,x,hx,hl=>by
  rw [List.foldlM_cons]
  rw [List.all_cons,Bool.and_eq_true] at hl
  obtain ⟨hy,hl⟩:=hl
  cases x<;>simp [isInt] at hx
  cases y<;>simp [isInt] at hy
  rename_i k a k' b
  obtain ⟨n,hn⟩:=hf k a k' b
  rw [hn]
  intro w v w' h
  rw [Sem.run_bind,Sem.run_pure,Result.andThen_ok] at h
  intro w2
  rw [Sem.run_bind,Sem.run_pure,Result.andThen_ok]
  exact okDet_foldInt f hf l _ rfl hl w v w' h w2
theorem okDet_min (ts:Array TypeId) (t:TypeId) (args:Array Value) (h:args.toList.all isInt=true):OkDet P (Builtin.min_ ts t args):=by
 unfold Builtin.min_
 split
 · exact .stuck _
 · rename_i x rest he
   rw [he,List.all_cons,Bool.and_eq_true] at h
   exact okDet_foldInt _ (fun k a k' b=>⟨_,rfl⟩) rest x h.1 h.2
theorem okDet_max (ts:Array TypeId) (t:TypeId) (args:Array Value) (h:args.toList.all isInt=true):OkDet P (Builtin.max_ ts t args):=by
 unfold Builtin.max_
 split
 · exact .stuck _
 · rename_i x rest he
   rw [he,List.all_cons,Bool.and_eq_true] at h
   exact okDet_foldInt _ (fun k a k' b=>⟨_,rfl⟩) rest x h.1 h.2
theorem valDet_of (o:Oper) (ρ:Operand->Value) (hk:quietKind P o=true) (hq:quietAt o ρ=true):ValDet P (execOp ρ o):=by
 obtain ⟨dst,op,type,pos,after,guard⟩:=o
 cases op<;>simp only [quietKind] at hk<;>first|contradiction|simp only [execOp]
 case move x=>exact .of _ (.pure _)
 case assign x=>exact .of _ (.pure _)
 case pick c a b=>exact .of _ (.bind (.asBool _) fun _=>.pure _)
 case build t ps=>exact .v (.build _ _)
 case nilCheck x=>
  simp only [quietAt] at hq
  split
  · exact .of _ (.runtimePanic _)
  · exact .of _ (.runtimePanic _)
  · exact .of _ (.runtimePanic _)
  · rename_i hx;rw [hx] at hq;simp at hq
  · exact .of _ (.pure _)
 case binOp op t x y yt=>exact .v (okDet_binOp op t x y _ _ (by rw [Bool.and_eq_true] at hk;exact hk.1) hq)
 case unOp op t x=>
  refine .v ?_
  simp only [quietAt] at hq
  unfold Op.unary
  cases op<;>simp at hk<;>(cases hx:ρ x<;>simp [hx] at hq)<;>first|exact .pure _|exact .stuck _|exact .intArith _ _ _ _
 case makeFunc fn first captured=>exact .v (.pure _)
 case slice t x lo hi mx=>exact .v (.sliceAt _ _ _ _ _)
 case fieldAddr s x f=>exact .v (.fieldAt _ _ _ hk)
 case field t x f=>exact .v (.field _ _ _)
 case indexAddr t x i=>exact .v (.indexAt _ _ _)
 case index t x i=>exact .v (.index _ _ _)
 case extract t i=>exact .v (.extract _ _)
 case call c=>
  obtain ⟨callee,args,argTypes⟩:=c
  cases callee<;>simp only [quietCallee] at hk<;>(try (cases hk;done))
  rename_i b
  simp only [quietAt,callShape] at hq
  simp only [resolve]
  intro w v w' h w2
  rw [Sem.run_bind,Sem.run_pure,Result.andThen_ok] at h ⊢
  simp only [invoke] at h ⊢
  revert w v w' h w2
  show ValDet P _
  cases b<;>first|contradiction|skip
  · exact .v (okDet_cap _ _ _ hq)
  · exact .v (okDet_len _ _ _ hq)
  · exact .v (okDet_max _ _ _ hq)
  · exact .v (okDet_min _ _ _ hq)
theorem value_of (o:Oper) (ρ:Operand->Value) (hk:quietKind P o=true) {w w':World} {n:Next} (h:(execOp ρ o).run P w=.ok n w'): ∃ v,n=.value v:=by
 have hv: ∀ {s:Sem Value},(do pure (.value (<-s)):Sem Next).run P w=.ok n w'-> ∃ v,n=.value v:=by
  intro s h
  rw [Sem.run_bind] at h
  cases hr:s.run P w with
  |ok a w1=>rw [hr] at h;simp only [Result.andThen_ok,Sem.run_pure] at h;injection h with h1 _;exact ⟨a,h1.symm⟩
  |halt x w1=>rw [hr] at h;cases h
 obtain ⟨dst,op,type,pos,after,guard⟩:=o
 cases op<;>simp only [quietKind] at hk<;>first|contradiction|simp only [execOp] at h
 case move x=>simp only [Sem.run_pure] at h;injection h with h1 _;exact ⟨_,h1.symm⟩
 case assign x=>simp only [Sem.run_pure] at h;injection h with h1 _;exact ⟨_,h1.symm⟩
 case pick c a b=>
  rw [Sem.run_bind] at h
  cases hr:(asBool (ρ c)).run P w with
  |ok a w1=>rw [hr] at h;simp only [Result.andThen_ok,Sem.run_pure] at h;injection h with h1 _;exact ⟨_,h1.symm⟩
  |halt x w1=>rw [hr] at h;cases h
 case nilCheck x=>
  have hp: ∀ (e:RuntimeError),(runtimePanic e:Sem Next).run P w≠.ok n w':=by
   intro e
   unfold Go.runtimePanic
   refine never_bind (fun p=>?_) w n w'
   cases e<;>first
    |exact never_panic _
    |exact never_bind fun _=>never_bind fun _=>never_panic _
  split at h
  · exact absurd h (hp _)
  · exact absurd h (hp _)
  · exact absurd h (hp _)
  · split at h
    · exact absurd h (hp _)
    · revert h
      have: ∀ (s:Sem Unit) (k:Sem Next),(∀ w w',k.run P w=.ok n w'-> ∃ v,n=.value v)->(s>>=fun _=>k).run P w=.ok n w'-> ∃ v,n=.value v:=by
       intro s k hk h
       rw [Sem.run_bind] at h
       cases hr:s.run P w with
       |ok a w1=>rw [hr] at h;exact hk _ _ h
       |halt x w1=>rw [hr] at h;cases h
      intro h
      rw [Sem.run_bind] at h
      have hprog:(Go.program).run P w=Result.ok P w:=rfl
      rw [hprog,Result.andThen_ok,Sem.run_bind] at h
      rename_i t v _
      cases hr:(nilAhead (P.types.size+Made.depth) t v _).run P w with
      |ok a w1=>
       rw [hr] at h
       simp only [Result.andThen_ok] at h
       split at h
       · simp only [Sem.run_bind,unsupported,Sem.run,Result.andThen_halt] at h;cases h
       · simp only [Sem.run_pure] at h;injection h with h1 _;exact ⟨_,h1.symm⟩
      |halt x w1=>rw [hr] at h;cases h
    · simp only [Sem.run_pure] at h;injection h with h1 _;exact ⟨_,h1.symm⟩
  · simp only [Sem.run_pure] at h;injection h with h1 _;exact ⟨_,h1.symm⟩
 case call c=>
  obtain ⟨callee,args,argTypes⟩:=c
  cases callee<;>simp only [quietCallee] at hk<;>(try (cases hk;done))
  rename_i b
  simp only [resolve] at h
  rw [Sem.run_bind,Sem.run_pure,Result.andThen_ok] at h
  simp only [invoke] at h
  cases b<;>first|contradiction|exact hv h
 all_goals exact hv h
theorem quietAt_congr (o:Oper) (ρ ρ':Operand->Value) (h: ∀ x∈o.op.operands,ρ x=ρ' x):quietAt o ρ=quietAt o ρ':=by
 obtain ⟨dst,op,type,pos,after,guard⟩:=o
 cases op<;>simp only [quietAt]
 case nilCheck x=>rw [h x (by simp [Op.operands])]
 case binOp op t x y yt=>rw [h x (by simp [Op.operands]),h y (by simp [Op.operands])]
 case unOp op t x=>rw [h x (by simp [Op.operands])]
 case call c=>
  have:c.args.map ρ=c.args.map ρ':=by
   apply Array.map_congr_left
   intro x hx
   exact h x (by simp [Op.operands,Call.operands,hx])
  rw [this]
def looks (o:Oper):Bool:=match o.op with|.nilCheck _|.binOp ..|.unOp ..|.call _=>true|_=>false
theorem quietAt_of_not (o:Oper) (ρ:Operand->Value) (h:looks o=false):quietAt o ρ=true:=by
 obtain ⟨dst,op,type,pos,after,guard⟩:=o
 cases op<;>simp only [looks,quietAt] at h ⊢ <;>cases h
def loudOf (P:Program):Nat->List Oper->List Nat
 |_,[]=>[]
 |k,o::l=>if quietKind P o then loudOf P (k+1) l else k::loudOf P (k+1) l
def stableB (ops:Array Oper):List Oper->Bool
 |[]=>true
 |o::l=>(!looks o||(o::l).all fun j=>match j.dst with|some d=>!(o.looksAt ops).contains d|none=>true) && stableB ops l
def shapesOk (P:Program) (ops:Array Oper) (l:List Oper) (a:Act):Bool:=
 l.all fun o=>!(quietKind P o && looks o)||!Region.wanted o (yielded ops a.tmps)||quietAt o a.eval
def atEnd (Q:Act->World->Prop):Exit->Act->World->Prop
 |.normal,a,w=>Q a w
 |_,_,_=>False
theorem atEnd_mk {ops:Array Oper} {l:List Oper} {Q:Act->World->Prop} {a:Act} {w:World} (h1:shapesOk P ops l a=true) (h2:Q a w):
 atEnd (fun a w=>shapesOk P ops l a=true/\Q a w) .normal a w:=⟨h1,h2⟩
theorem en {ops:Array Oper} {l:List Oper} {Q:Act->World->Prop} {a:Act} {w:World} (h2:Q a w) (h1:shapesOk P ops l a=true:=by kernel_rfl):
 atEnd (fun a w=>shapesOk P ops l a=true/\Q a w) .normal a w:=⟨h1,h2⟩
theorem wp_strict {o:Oper} {a:Act} {w:World} {K:Act->World->Prop} {Q:Act->World->Prop} (h:o.wp P a w K (atEnd Q)):o.wp P a w K noExit:=by
 unfold Oper.wp at*
 generalize (execOp a.eval o).run P w=r at*
 cases r with
 |ok n w'=>
  cases n<;>simp only [Oper.upon] at h ⊢
  case enter f args=>
   exact Calls.mono h (fun e w'' he=>by
    cases e
    case returned v=>exact he
    case panicked c=>exact he.elim
    case outgrown=>obtain ⟨_,_,h⟩:=he;exact h.elim)
  case row=>exact h
  all_goals exact h
 |halt x w'=>cases x<;>simp only [Oper.upon,atEnd] at h
theorem wpList_cons {ops:Array Oper} {Q:Act->World->Prop} {o:Oper} {l:List Oper} {a:Act} {w:World} (h:wpList P ops (atEnd Q) (o::l) a w):
 if Region.wanted o (yielded ops a.tmps) then o.wp P a w (wpList P ops (atEnd Q) l) noExit else wpList P ops (atEnd Q) l (a.put o.dst undef) w:=by
 unfold wpList at h
 split
 · rename_i hw
   rw [if_pos hw] at h
   rcases h with h|⟨_,_,_,h⟩
   · exact wp_strict h
   · exact h.elim
 · rename_i hw;rw [if_neg hw] at h;exact h
theorem wpList_run {ops:Array Oper} {Q:Act->World->Prop}: ∀ (l:List Oper) (a:Act) (w:World),wpList P ops (atEnd Q) l a w->
 ∃ a' w',Q a' w'/\ ∀ t,(∀ o∈l,o.dst≠some t)->a'.tmps[t]?=a.tmps[t]?
 |[],a,w,h=>⟨a,w,h,fun _ _=>rfl⟩
 |o::l,a,w,h=>by
  have put: ∀ (a:Act) (v:Value) t,o.dst≠some t->(a.put o.dst v).tmps[t]?=a.tmps[t]?:=by
   intro a v t ht
   cases hd:o.dst with
   |none=>rfl
   |some d=>simp [Act.put,Array.getElem?_setIfInBounds_ne (show d≠t from fun e=>ht (by rw [hd,e]))]
  have h1:=wpList_cons h
  split at h1
  · obtain ⟨a1,w1,⟨ds,u,rfl⟩,h2⟩:=wp_exists (wp_after h1)
    obtain ⟨a',w',hq,ht⟩:=wpList_run l _ w1 h2
    refine ⟨a',w',hq,fun t hn=>?_⟩
    rw [ht t (fun o' ho'=>hn o' (by simp [ho'])),put _ _ t (hn o (by simp))]
  · obtain ⟨a',w',hq,ht⟩:=wpList_run l _ w h1
    refine ⟨a',w',hq,fun t hn=>?_⟩
    rw [ht t (fun o' ho'=>hn o' (by simp [ho'])),put _ _ t (hn o (by simp))]
theorem same_ends {ops:Array Oper} {o:Oper} {a a':Act} (h: ∀ t,t∈o.looksAt ops->a'.tmps[t]?=a.tmps[t]?):
 quietAt o a'.eval=quietAt o a.eval/\Region.wanted o (yielded ops a'.tmps)=Region.wanted o (yielded ops a.tmps):=by
 refine ⟨quietAt_congr o _ _ fun x hx=>?_,?_⟩
 · cases x with
   |tmp t=>
    have:=h t (List.mem_append_left _ (List.mem_filterMap.2 ⟨.tmp t,by simpa using hx,rfl⟩))
    simp [Act.eval,this]
   |_=>rfl
 · unfold Region.wanted
   cases hg:o.guard with
   |none=>rfl
   |some gw=>
    obtain ⟨g,want⟩:=gw
    have hy:yielded ops a'.tmps g=yielded ops a.tmps g:=by
     unfold yielded
     cases ht:(ops[g]?).bind (·.dst) with
     |none=>rfl
     |some t=>
      have:=h t (by simp [Oper.looksAt,hg,ht])
      simp [this]
    simp only [hy]
theorem mem_loudOf: ∀ (l:List Oper) (k j:Nat) (o:Oper),l[j]?=some o->((loudOf P k l).contains (k+j)=true ↔ quietKind P o=false)
 |[],_,_,_,h=>by simp at h
 |o'::l,k,j,o,h=>by
  have below: ∀ (l:List Oper) (k i:Nat),i<k->(loudOf P k l).contains i=false:=by
   intro l
   induction l with
   |nil=>intro k i _;rfl
   |cons x l ih=>
    intro k i hi
    unfold loudOf
    split
    · exact ih (k+1) i (by omega)
    · simp only [List.contains_cons,ih (k+1) i (by omega),Bool.or_false,beq_eq_false_iff_ne]
      omega
  unfold loudOf
  cases j with
  |zero=>
   simp only [List.getElem?_cons_zero,Option.some.injEq] at h
   subst h
   split
   · rename_i hq;simp [hq];exact fun hm=>by have:=below l (k+1) k (by omega);simp at this;exact absurd hm this
   · rename_i hq;simp [hq]
  |succ j=>
   simp only [List.getElem?_cons_succ] at h
   have ih:=mem_loudOf l (k+1) j o h
   have e:k+1+j=k+(j+1):=by omega
   rw [e] at ih
   split
   · exact ih
   · rw [List.contains_cons]
     have:(k+(j+1) == k)=false:=by rw [beq_eq_false_iff_ne];omega
     rw [this,Bool.false_or]
     exact ih
theorem wpLex_of_wpList {ops:Array Oper} {Q:Act->World->Prop} {L:List Nat} {full:List Oper}: ∀ (l:List Oper) (k:Nat) (a:Act) (w:World),
 (∀ j o,l[j]?=some o->(L.contains (k+j)=true ↔ quietKind P o=false))->(∀ o∈l,o∈full)->stableB ops l=true->
 wpList P ops (atEnd fun a w=>shapesOk P ops full a=true/\Q a w) l a w->wpLex P ops (fun _=>True) L Q k l a w
 |[],_,_,_,_,_,_,h=>h.2
 |o::l,k,a,w,hL,hfull,hst,h=>by
  have rest: ∀ a w,wpList P ops (atEnd fun a w=>shapesOk P ops full a=true/\Q a w) l a w->wpLex P ops (fun _=>True) L Q (k+1) l a w:=fun a w h=>
   wpLex_of_wpList l (k+1) a w (fun j o' ho'=>by have:=hL (j+1) o' (by simpa using ho');rwa [show k+(j+1)=k+1+j from by omega] at this)
    (fun o' ho'=>hfull o' (by simp [ho'])) (by simp only [stableB,Bool.and_eq_true] at hst;exact hst.2) h
  have h1:=wpList_cons h
  have hk:=hL 0 o rfl
  rw [Nat.add_zero] at hk
  unfold wpLex
  split
  · rename_i hw
    rw [if_pos hw] at h1
    unfold stepL
    split
    · exact wp_monoQ (fun a w hh=>⟨trivial,rest a w hh⟩) h1
    · rename_i hl
      have hq:quietKind P o=true:=by
       cases hb:quietKind P o
       · exact absurd (hk.2 hb) hl
       · rfl
      have hshape:quietAt o a.eval=true:=by
       cases hlk:looks o
       · exact quietAt_of_not o _ hlk
       · obtain ⟨a',w',⟨hsh,_⟩,ht⟩:=wpList_run (o::l) a w h
         simp only [stableB,hlk,Bool.not_true,Bool.false_or,Bool.and_eq_true] at hst
         have hall:=List.all_eq_true.1 hst.1
         obtain ⟨e1,e2⟩:=same_ends (ops:=ops) (o:=o) (a:=a) (a':=a') (fun t hm=>ht t fun o' ho' hd=>by
          have:=hall o' ho'
          rw [hd] at this
          simp at this
          exact this hm)
         have:=List.all_eq_true.1 hsh o (hfull o (by simp))
         rw [e1,e2,hw,hq,hlk] at this
         simpa using this
      unfold same
      have hh:=h1
      unfold Oper.wp at hh
      cases hr:(execOp a.eval o).run P w with
      |ok n w1=>
       obtain ⟨v,rfl⟩:=value_of o a.eval hq hr
       rw [hr] at hh
       have hv:=valDet_of (P:=P) o a.eval hq hshape w v w1 hr
       have hw1:=hv w
       rw [hr] at hw1
       injection hw1 with _ hw1
       subst hw1
       exact ⟨v,fun w2 _=>.inl (hv w2),rest _ _ hh⟩
      |halt x w1=>rw [hr] at hh;cases x<;>simp only [Oper.upon,noExit] at hh
  · rename_i hw
    rw [if_neg hw] at h1
    exact rest _ _ h1
def drawOk (P:Program) (l:List Oper):Bool:=lexOk l.toArray (loudOf P 0 l) && stableB l.toArray l
theorem any_region_text {Q:Exit->Act->World->Prop} {a:Act} {w:World} {l:List Oper} (hB:drawOk P l=true)
 (h:wpList P l.toArray (atEnd fun a w=>shapesOk P l.toArray l a=true/\Q .normal a w) l a w.drew):regAny P l Q a w:=by
 simp only [drawOk,Bool.and_eq_true] at hB
 exact any_region_lex (loudOf P 0 l) (fun _=>True) hB.1 trivial (fun _ _ _=>trivial)
  (wpLex_of_wpList (full:=l) l 0 a w.drew (fun j o ho=>mem_loudOf l 0 j o ho) (fun _ h=>h) hB.2 h)
theorem wp_region_text {id:Nat} {Q:Exit->Act->World->Prop} {a:Act} {w:World} {l:List Oper} (hm:P.follows .mixedOrders=true) (hB:drawOk P l=true)
 (h:wpList P l.toArray (atEnd fun a w=>shapesOk P l.toArray l a=true/\Q .normal a w) l a w.drew):(Code.region id l.toArray true).wp P Q a w:=
 wp_region_any hm (any_region_text hB h)
end
end Go.Sk
namespace Go.Sk
open Go
section
variable {P:Program} {ops:Array Oper} {C:World->Prop}
def wpC (P:Program) (ops:Array Oper) (C:World->Prop) (Q:Act->World->Prop):List Oper->Act->World->Prop
 |[],a,w=>Q a w
 |o::rest,a,w=>wpList P ops (atEnd fun a' w'=>C w'/\wpC P ops C Q rest a' w') [o] a w
theorem wpC_nil {Q:Act->World->Prop} {a:Act} {w:World} (h:Q a w):wpC P ops C Q [] a w:=h
theorem wpC_end {Q:Act->World->Prop} {a:Act} {w:World} (h:wpC P ops C Q [] a w):Q a w:=h
theorem wpC_of {Q:Act->World->Prop} {o:Oper} {rest:List Oper} {a:Act} {w:World} (h:wpList P ops (atEnd fun a' w'=>C w'/\wpC P ops C Q rest a' w') [o] a w):wpC P ops C Q (o::rest) a w:=h
theorem atEndC {Q:Act->World->Prop} {a:Act} {w:World} (h1:C w) (h2:Q a w):atEnd (fun a w=>C w/\Q a w) .normal a w:=⟨h1,h2⟩
theorem wpC_cons {Q:Act->World->Prop} {o:Oper} {l:List Oper} {a:Act} {w:World} (h:wpC P ops C Q (o::l) a w):
 if Region.wanted o (yielded ops a.tmps) then o.wp P a w (fun a' w'=>C w'/\wpC P ops C Q l a' w') noExit else C w/\wpC P ops C Q l (a.put o.dst undef) w:=by
 have h1:=wpList_cons h
 split
 · rename_i hw
   rw [if_pos hw] at h1
   exact wp_monoQ (fun a' w' hh=>hh) h1
 · rename_i hw
   rw [if_neg hw] at h1
   exact h1
theorem wpC_run {Q:Act->World->Prop}: ∀ (l:List Oper) (a:Act) (w:World),wpC P ops C Q l a w->
 ∃ a' w',Q a' w'/\ ∀ t,(∀ o∈l,o.dst≠some t)->a'.tmps[t]?=a.tmps[t]?
 |[],a,w,h=>⟨a,w,h,fun _ _=>rfl⟩
 |o::l,a,w,h=>by
  have put: ∀ (a:Act) (v:Value) t,o.dst≠some t->(a.put o.dst v).tmps[t]?=a.tmps[t]?:=by
   intro a v t ht
   cases hd:o.dst with
   |none=>rfl
   |some d=>simp [Act.put,Array.getElem?_setIfInBounds_ne (show d≠t from fun e=>ht (by rw [hd,e]))]
  have h1:=wpC_cons h
  split at h1
  · obtain ⟨a1,w1,⟨ds,u,rfl⟩,_,h2⟩:=wp_exists (wp_after h1)
    obtain ⟨a',w',hq,ht⟩:=wpC_run l _ w1 h2
    refine ⟨a',w',hq,fun t hn=>?_⟩
    rw [ht t (fun o' ho'=>hn o' (by simp [ho'])),put _ _ t (hn o (by simp))]
  · obtain ⟨a',w',hq,ht⟩:=wpC_run l _ w h1.2
    refine ⟨a',w',hq,fun t hn=>?_⟩
    rw [ht t (fun o' ho'=>hn o' (by simp [ho'])),put _ _ t (hn o (by simp))]
def loudS (P:Program) (S:List Nat) (l:List Oper):List Nat:=(loudOf P 0 l).filter fun k=>!S.contains k
def stableOk (ops:Array Oper) (S:List Nat):Bool:=
 S.all fun k=>match ops[k]? with
  |some o=>(match o.dst with
    |some d=>((List.range ops.size).all fun j=>decide (j<=k)||(match ops[j]? with
      |some oj=>(match oj.dst with|some dj=>dj !=d && !(o.looksAt ops).contains dj|none=>true)
      |none=>true)) && !(o.looksAt ops).contains d
    |none=>false)
  |none=>false
def stays (P:Program) (ops:Array Oper) (C:World->Prop) (S:List Nat) (a:Act):Prop:=
 ∀ k∈S,∀ o,ops[k]?=some o->Region.wanted o (yielded ops a.tmps)=true-> ∀ w,C w->gives P (execOp a.eval o) ((o.dst.map fun d=>a.tmps.getD d undef).getD undef) w
theorem same_eval {o:Oper} {a a':Act} (hs: ∀ cs b,o.op≠.select cs b) (h: ∀ t,t∈o.looksAt ops->a'.tmps[t]?=a.tmps[t]?):execOp a'.eval o=execOp a.eval o:=
 execOp_congr o hs fun x hx=>by
  cases x with
  |tmp t=>
   have:=h t (List.mem_append_left _ (List.mem_filterMap.2 ⟨.tmp t,by simpa using hx,rfl⟩))
   simp [Act.eval,this]
  |_=>rfl
theorem wpLex_of_wpC {Q:Act->World->Prop} {S:List Nat} {full:List Oper} (hfullops:ops=full.toArray) (hsel:Region.noSelect ops=true) (hS:stableOk ops S=true): ∀ (l:List Oper) (k:Nat) (a:Act) (w:World),C w->
 (∀ j,l[j]?=ops[k+j]?)->stableB ops l=true->
 wpC P ops C (fun a w=>shapesOk P ops full a=true/\stays P ops C S a/\Q a w) l a w->
 (∀ o∈l,∀ d,o.dst=some d->d<a.tmps.size)->wpLex P ops C (loudS P S full) Q k l a w
 |[],_,_,_,_,_,_,h,_=>h.2.2
 |o::l,k,a,w,hC,hl,hst,h,hd=>by
  have hk0:ops[k]?=some o:=by simpa using (hl 0).symm
  have hmem: ∀ o'∈o::l,o'∈full:=fun o' ho'=>by
   obtain ⟨j,hj⟩:=List.getElem?_of_mem ho'
   rw [hl j,hfullops] at hj
   simp only [List.getElem?_toArray] at hj
   exact List.mem_of_getElem? hj
  have hsz: ∀ (d:Option Tmp) (v:Value),(a.put d v).tmps.size=a.tmps.size:=fun d v=>by cases d<;>simp [Act.put]
  have rest: ∀ a' w',C w'->a'.tmps.size=a.tmps.size->wpC P ops C (fun a w=>shapesOk P ops full a=true/\stays P ops C S a/\Q a w) l a' w'->wpLex P ops C (loudS P S full) Q (k+1) l a' w':=fun a' w' hC' hsz' h'=>
   wpLex_of_wpC hfullops hsel hS l (k+1) a' w' hC' (fun j=>by have:=hl (j+1);simpa [Nat.add_assoc,Nat.add_comm 1 j] using this)
    (by simp only [stableB,Bool.and_eq_true] at hst;exact hst.2) h' (fun o' ho' d hd'=>by rw [hsz'];exact hd o' (by simp [ho']) d hd')
  have h1:=wpC_cons h
  have hL:(loudS P S full).contains k=true ↔ (quietKind P o=false/\S.contains k=false):=by
   have h0:full[k]?=some o:=by rw [hfullops] at hk0;simpa using hk0
   have hm:=mem_loudOf (P:=P) full 0 k o h0
   rw [Nat.zero_add] at hm
   unfold loudS
   rw [List.contains_iff_mem,List.mem_filter,<-List.contains_iff_mem,hm]
   simp
  unfold wpLex
  split
  · rename_i hw
    rw [if_pos hw] at h1
    unfold stepL
    split
    · have h2:=wp_after h1
      refine wp_monoQ (fun a' w' hh=>⟨hh.2.1,rest a' w' hh.2.1 ?_ hh.2.2⟩) h2
      obtain ⟨ds,u,rfl⟩:=hh.1
      cases hdd:o.dst<;>simp [Act.put]
    · rename_i hl'
      obtain ⟨af,wf,⟨hsh,hstay,_⟩,ht⟩:=wpC_run (o::l) a w h
      by_cases hSk:S.contains k=true
      ·
       have hok:=List.all_eq_true.1 hS k (List.contains_iff_mem.1 hSk)
       simp only [hk0] at hok
       cases hdst:o.dst with
       |none=>rw [hdst] at hok;cases hok
       |some d=>
        rw [hdst] at hok
        simp only [Bool.and_eq_true,List.all_eq_true,List.mem_range,Bool.or_eq_true,decide_eq_true_eq,Bool.not_eq_true'] at hok
        obtain ⟨hlater,hown⟩:=hok
        have hlook: ∀ t,t∈o.looksAt ops->af.tmps[t]?=a.tmps[t]?:=fun t hm=>ht t fun o' ho' hd'=>by
         rcases List.mem_cons.1 ho' with rfl|ho'
         · rw [hdst] at hd'
           injection hd' with hd'
           subst hd'
           have:=List.contains_iff_mem.2 hm
           rw [hown] at this
           cases this
         · obtain ⟨j,hj⟩:=List.getElem?_of_mem ho'
           have hj':ops[k+(j+1)]?=some o':=by rw [<-hl (j+1)];simpa using hj
           have hlt:k+(j+1)<ops.size:=(Array.getElem?_eq_some_iff.1 hj').1
           have:=(hlater (k+(j+1)) hlt).resolve_left (by omega)
           rw [hj'] at this
           simp only [hd',Bool.and_eq_true,bne_iff_ne,Bool.not_eq_true'] at this
           have h3:=List.contains_iff_mem.2 hm
           rw [this.2] at h3
           cases h3
        have hso: ∀ cs b,o.op≠.select cs b:=fun cs b=>Region.noSelect_spec hsel k o cs b hk0
        have heval:=same_eval hso hlook
        have hwant:Region.wanted o (yielded ops af.tmps)=true:=by
         rw [(same_ends hlook).2];exact hw
        have hval:=hstay k (List.contains_iff_mem.1 hSk) o hk0 hwant
        rw [heval,hdst] at hval
        simp only [Option.map_some,Option.getD_some] at hval
        unfold same
        refine ⟨af.tmps.getD d undef,hval,?_⟩
        have hh:=gives_back (hval w hC) h1
        exact rest _ _ hC (hsz _ _) hh.2
      · have hSk':S.contains k=false:=by simpa using hSk
        have hq:quietKind P o=true:=by
         cases hb:quietKind P o
         · exact absurd (hL.2 ⟨hb,hSk'⟩) hl'
         · rfl
        have hshape:quietAt o a.eval=true:=by
         cases hlk:looks o
         · exact quietAt_of_not o _ hlk
         · simp only [stableB,hlk,Bool.not_true,Bool.false_or,Bool.and_eq_true] at hst
           have hall:=List.all_eq_true.1 hst.1
           obtain ⟨e1,e2⟩:=same_ends (ops:=ops) (o:=o) (a:=a) (a':=af) (fun t hm=>ht t fun o' ho' hd'=>by
            have:=hall o' ho'
            rw [hd'] at this
            simp at this
            exact this hm)
           have:=List.all_eq_true.1 hsh o (hmem o (by simp))
           rw [e1,e2,hw,hq,hlk] at this
           simpa using this
        unfold same
        have hh:=h1
        unfold Oper.wp at hh
        cases hr:(execOp a.eval o).run P w with
        |ok n w1=>
         obtain ⟨v,rfl⟩:=value_of o a.eval hq hr
         rw [hr] at hh
         have hv:=valDet_of (P:=P) o a.eval hq hshape w v w1 hr
         have hw1:=hv w
         rw [hr] at hw1
         injection hw1 with _ hw1
         subst hw1
         exact ⟨v,fun w2 _=>.inl (hv w2),rest _ _ hh.1 (hsz _ _) hh.2⟩
        |halt x w1=>rw [hr] at hh;cases x<;>simp only [Oper.upon,noExit] at hh
  · rename_i hw
    rw [if_neg hw] at h1
    exact rest _ _ hC (hsz _ _) h1.2
def drawOkS (P:Program) (S:List Nat) (l:List Oper):Bool:=lexOk l.toArray (loudS P S l) && stableB l.toArray l && stableOk l.toArray S
theorem any_region_stable {Q:Exit->Act->World->Prop} {a:Act} {w:World} {l:List Oper} (S:List Nat) (C:World->Prop) (hB:drawOkS P S l=true)
 (hC:C w.drew) (hCa: ∀ w ob,C w->C (w.alloc ob)) (hd:(l.all fun o=>match o.dst with|some d=>decide (d<a.tmps.size)|none=>true)=true)
 (h:wpC P l.toArray C (fun a w=>shapesOk P l.toArray l a=true/\stays P l.toArray C S a/\Q .normal a w) l a w.drew):regAny P l Q a w:=by
 simp only [drawOkS,Bool.and_eq_true] at hB
 have hsel:Region.noSelect l.toArray=true:=by
  have:=hB.1.1
  simp only [lexOk,Bool.and_eq_true] at this
  exact this.1.1
 refine any_region_lex (loudS P S l) C hB.1.1 hC hCa
  (wpLex_of_wpC (full:=l) rfl hsel hB.2 l 0 a w.drew hC (by simp) hB.1.2 h (fun o ho d hod=>by
    have:=List.all_eq_true.1 hd o ho
    rw [hod] at this
    simpa using this))
theorem wp_region_stable {id:Nat} {Q:Exit->Act->World->Prop} {a:Act} {w:World} {l:List Oper} (S:List Nat) (C:World->Prop) (hm:P.follows .mixedOrders=true) (hB:drawOkS P S l=true)
 (hC:C w.drew) (hCa: ∀ w ob,C w->C (w.alloc ob)) (hd:(l.all fun o=>match o.dst with|some d=>decide (d<a.tmps.size)|none=>true)=true)
 (h:wpC P l.toArray C (fun a w=>shapesOk P l.toArray l a=true/\stays P l.toArray C S a/\Q .normal a w) l a w.drew):(Code.region id l.toArray true).wp P Q a w:=
 wp_region_any hm (any_region_stable S C hB hC hCa hd h)
end
attribute [irreducible] wpC
end Go.Sk
namespace Go.Sk
open Go
structure Mod (F:Nat->Prop) (w w':World):Prop where
 os:w'.os=w.os
 tape:w'.tape=w.tape
 output:w'.output=w.output
 size:w.heap.size<=w'.heap.size
 block: ∀ k,k<w.heap.size-> ¬ F k->w'.heap[k]?=w.heap[k]?
def none':Nat->Prop:=fun _=>False
def only (b:Nat):Nat->Prop:=fun k=>k=b
namespace Mod
variable {F G:Nat->Prop} {w w1 w2:World}
theorem refl (F:Nat->Prop) (w:World):Mod F w w:=⟨rfl,rfl,rfl,Nat.le_refl _,fun _ _ _=>rfl⟩
theorem trans' (h:Mod F w w1) (k:Mod G w1 w2) (hG: ∀ b,b<w.heap.size->G b->F b):Mod F w w2:=
 ⟨k.os.trans h.os,k.tape.trans h.tape,k.output.trans h.output,Nat.le_trans h.size k.size,
  fun b hb hF=>(k.block b (Nat.lt_of_lt_of_le hb h.size) (fun hg=>hF (hG b hb hg))).trans (h.block b hb hF)⟩
theorem trans (h:Mod F w w1) (k:Mod F w1 w2):Mod F w w2:=h.trans' k fun _ _ h=>h
theorem mono (h:Mod F w w1) (hF: ∀ b,F b->G b):Mod G w w1:=⟨h.os,h.tape,h.output,h.size,fun b hb hG=>h.block b hb (fun hf=>hG (hF b hf))⟩
theorem drop (h:Mod F w w1) (k:Mod G w1 w2) (hG: ∀ b,G b->F b\/w.heap.size<=b):Mod F w w2:=
 h.trans' k fun b hb hg=>(hG b hg).resolve_right (by omega)
theorem drew (w:World):Mod F w w.drew:=⟨rfl,rfl,rfl,Nat.le_refl _,fun _ _ _=>rfl⟩
theorem alloc (w:World) (o:Obj):Mod F w (w.alloc o):=⟨rfl,rfl,rfl,by simp,fun k hk _=>RowKit.Below.heap_alloc w o k hk⟩
theorem of_grown {row:Option Nat} (h:w.grownBy w1 row) (hr: ∀ b,row=some b->F b):Mod F w w1:=
 ⟨h.os,h.tape,h.output,h.size,fun k hk hF=>h.block k hk fun e=>hF (hr k e.symm)⟩
theorem below (h:Mod F w w1) (B:Nat) (hB:B<=w.heap.size) (hF: ∀ b,F b->B<=b):RowKit.Below B w w1:=
 ⟨h.os,h.tape,h.output,h.size,fun k hk=>h.block k (by omega) fun hf=>by have:=hF k hf;omega⟩
theorem setRow (w:World) (g:Nat) (cs:Array Value) (hg:F g):Mod F w (w.setRow g cs):=
 ⟨rfl,rfl,rfl,by simp,fun k _ hF=>setRow_other w g k cs fun e=>hF (e ▸ hg)⟩
end Mod
def Blk (w:World) (b:Nat) (cs:List Value) (T:TypeId):Prop:=w.heap[b]?=some (.cells cs.toArray T (0,0))
def At (w:World) (b o:Nat) (cs:List Value):Prop:= ∀ j u,cs[j]?=some u->w.cell? ⟨b,o+j,none⟩=some u
section
variable {F:Nat->Prop} {w w':World} {b o:Nat} {cs ds:List Value} {T:TypeId}
theorem Blk.lt (h:Blk w b cs T):b<w.heap.size:=(Array.getElem?_eq_some_iff.1 h).1
theorem Blk.mod (h:Blk w b cs T) (m:Mod F w w') (hb: ¬ F b):Blk w' b cs T:=(m.block b h.lt hb).trans h
theorem Blk.cell (h:Blk w b cs T) (k:Nat):w.cell? ⟨b,k,none⟩=cs[k]?:=by simp [World.cell?,show w.heap[b]?=_ from h]
theorem Blk.free (h:Blk w b cs T) (k:Nat):w.frozen? ⟨b,k,none⟩=false:=by simp [World.frozen?,show w.heap[b]?=_ from h]
theorem Blk.at (h:Blk w b cs T) (hd: ∀ j u,ds[j]?=some u->cs[o+j]?=some u):At w b o ds:=fun j u hu=>(h.cell _).trans (hd j u hu)
theorem Blk.at0 (h:Blk w b cs T):At w b 0 cs:=h.at fun j u hu=>by rw [Nat.zero_add];exact hu
theorem Blk.new (w:World) (cs:List Value) (T:TypeId):Blk (w.alloc (.cells cs.toArray T)) w.heap.size cs T:=heap_alloc_new w _
theorem At.lt (h:At w b o cs) (hc:cs≠[]):b<w.heap.size:=by
 obtain ⟨x,xs,rfl⟩:=List.exists_cons_of_ne_nil hc
 exact World.block_lt_of_cell? w ⟨b,o+0,none⟩ (h 0 x rfl)
theorem At.mod (h:At w b o cs) (m:Mod F w w') (hb: ¬ F b):At w' b o cs:=fun j u hu=>by
 have h1:=h j u hu
 have hlt:b<w.heap.size:=World.block_lt_of_cell? w _ h1
 rw [World.cell?_of_block (a:=⟨b,o+j,none⟩) (m.block b hlt hb)]
 exact h1
theorem At.cell (h:At w b o cs) {j:Nat} {u:Value} (hu:cs[j]?=some u):w.cell? ⟨b,o+j,none⟩=some u:=h j u hu
theorem At.part (h:At w b o cs) (k:Nat) (hd: ∀ j u,ds[j]?=some u->cs[k+j]?=some u):At w b (o+k) ds:=fun j u hu=>by
 have:=h (k+j) u (hd j u hu);rwa [<-Nat.add_assoc] at this
theorem At.take (h:At w b o cs) (n:Nat):At w b o (cs.take n):=fun j u hu=>h j u (by
 rw [List.getElem?_take] at hu
 split at hu
 · exact hu
 · cases hu)
end
def Sl (w:World) (v:Value) (sz n:Nat) (cs:List Value):Prop:=
 cs.length=n*sz/\ ∃ ad c,v=.slice ad n c/\n<=c/\(n=0\/ ∃ b o,ad=some ⟨b,o,none⟩/\At w b o cs)
theorem Sl.mod {F:Nat->Prop} {w w':World} {v:Value} {sz n:Nat} {cs:List Value} (h:Sl w v sz n cs) (m:Mod F w w') (hb: ∀ b,v.ownBlock=some b-> ¬ F b):Sl w' v sz n cs:=by
 obtain ⟨h1,ad,c,rfl,h2,h3⟩:=h
 refine ⟨h1,ad,c,rfl,h2,?_⟩
 rcases h3 with h0|⟨b,o,rfl,hc⟩
 · exact .inl h0
 · exact .inr ⟨b,o,rfl,hc.mod m (hb b rfl)⟩
theorem Sl.nil (w:World) (sz:Nat):Sl w (.slice none 0 0) sz 0 []:=⟨by simp,none,0,rfl,Nat.le_refl _,.inl rfl⟩
theorem Sl.len {w:World} {v:Value} {sz n:Nat} {cs:List Value} (h:Sl w v sz n cs): ∃ ad c,v=.slice ad n c:=by
 obtain ⟨_,ad,c,rfl,_⟩:=h
 exact ⟨_,_,rfl⟩
theorem Sl.inj {w:World} {ad:Option Addr} {k c:Nat} {sz n:Nat} {cs:List Value} (h:Sl w (.slice ad k c) sz n cs):k=n:=by
 obtain ⟨_,_,e⟩:=h.len;injection e
abbrev Own (w:World) (e:TypeId) (sz:Nat) (v:Value) (n:Nat) (xs:List Value):Prop:=w.ownsRow 0 e sz v n xs
theorem Own.sl {w:World} {e:TypeId} {sz n:Nat} {v:Value} {xs:List Value} (h:Own w e sz v n xs):Sl w v sz n xs:=by
 refine ⟨h.1,?_⟩
 rcases h.2 with ⟨h0,h1⟩|⟨g,cap,cur,rfl,_,hg,hn,_,_,htake⟩
 · subst h1;exact ⟨none,0,h0,Nat.le_refl _,.inl rfl⟩
 · refine ⟨_,cap,rfl,hn,.inr ⟨g,0,rfl,fun j u hu=>?_⟩⟩
   rw [Nat.zero_add,cell_of_row w g j cur e (0,0) hg,<-Array.getElem?_toList]
   rw [<-htake,List.getElem?_take] at hu
   split at hu
   · exact hu
   · cases hu
theorem Own.mod {F:Nat->Prop} {w w':World} {e:TypeId} {sz n:Nat} {v:Value} {xs:List Value} (h:Own w e sz v n xs) (m:Mod F w w') (hb: ∀ b,v.ownBlock=some b-> ¬ F b):Own w' e sz v n xs:=by
 refine ⟨h.1,?_⟩
 rcases h.2 with h0|⟨g,cap,cur,rfl,hb0,hg,rest⟩
 · exact .inl h0
 · exact .inr ⟨g,cap,cur,rfl,hb0,(m.block g (Array.getElem?_eq_some_iff.1 hg).1 (hb g rfl)).trans hg,rest⟩
theorem Own.nil (w:World) (e:TypeId) (sz:Nat):Own w e sz (.slice none 0 0) 0 []:=World.ownsRow_nil w 0 e sz
theorem Own.lt {w:World} {e:TypeId} {sz n:Nat} {v:Value} {xs:List Value} (h:Own w e sz v n xs): ∀ b,v.ownBlock=some b->b<w.heap.size:=fun b hb=>(World.ownsRow.lt h b hb).2
theorem Own.of_blk {w:World} {e:TypeId} {sz n g:Nat} {xs:List Value} (h:Blk w g xs e) (hl:xs.length=n*sz) (hm:n<=maxLen):Own w e sz (.slice (some ⟨g,0,none⟩) n n) n xs:=
 ⟨hl,.inr ⟨g,n,xs.toArray,rfl,Nat.zero_le _,h,Nat.le_refl _,hm,by simpa using hl,by simp [<-hl]⟩⟩
section
variable {P:Program} {w:World}
def scalarB (P:Program) (t:TypeId):Bool:=match P.underlying t with|some (.struct _)=>false|some (.array ..)=>false|some _=>true|none=>false
def aggB (P:Program) (t:TypeId) (n:Nat):Bool:=(match P.underlying t with|some (.struct _)=>true|some (.array ..)=>true|_=>false) && (P.info? t).map (·.size) == some n
def sizeB (P:Program) (t:TypeId) (n:Nat):Bool:=(P.info? t).map (·.size) == some n
theorem run_isAgg_no {t:TypeId} (h:scalarB P t=true):(isAgg t).run P w=.ok false w:=by
 unfold scalarB at h
 cases hu:P.underlying t with
 |none=>rw [hu] at h;cases h
 |some d=>
  rw [hu] at h
  unfold isAgg
  rw [Sem.run_bind,run_underlying hu w]
  cases d<;>first|(cases h;done)|rfl
theorem run_isAgg_yes {t:TypeId} {n:Nat} (h:aggB P t n=true):(isAgg t).run P w=.ok true w/\(sizeOf t).run P w=.ok n w:=by
 unfold aggB at h
 rw [Bool.and_eq_true] at h
 constructor
 · cases hu:P.underlying t with
   |none=>rw [hu] at h;cases h.1
   |some d=>
    rw [hu] at h
    unfold isAgg
    rw [Sem.run_bind,run_underlying hu w]
    cases d<;>first|(cases h.1;done)|rfl
 · cases hi:P.info? t with
   |none=>rw [hi] at h;cases h.2
   |some i=>
    rw [hi] at h
    have:i.size=n:=by simpa using h.2
    simp [sizeOf,typeInfo,hi,this]
theorem run_sizeOf {t:TypeId} {n:Nat} (h:sizeB P t n=true):(sizeOf t).run P w=.ok n w:=by
 unfold sizeB at h
 cases hi:P.info? t with
 |none=>rw [hi] at h;cases h
 |some i=>
  rw [hi] at h
  have:i.size=n:=by simpa using h
  simp [sizeOf,typeInfo,hi,this]
theorem add_at (b o n:Nat):(⟨b,o,none⟩:Addr).add n=⟨b,o+n,none⟩:=Addr.add_lit b o n
theorem run_load {t:TypeId} {b k:Nat} {v:Value} (ht:scalarB P t=true) (hc:w.cell? ⟨b,k,none⟩=some v):(Instr.loadAt t (.pointer (some ⟨b,k,none⟩))).run P w=.ok v w:=by
 simp only [Instr.loadAt,Instr.sureAddr,loadVar,Sem.run_bind,Sem.run_pure,Result.andThen_ok,run_isAgg_no ht]
 simp [load,Sem.run,hc]
theorem run_loadS {t:TypeId} {b k n:Nat} {cs:List Value} (ht:aggB P t n=true) (hn:cs.length=n) (hc:At w b k cs):(Instr.loadAt t (.pointer (some ⟨b,k,none⟩))).run P w=.ok (.agg cs.toArray) w:=by
 obtain ⟨h1,h2⟩:=run_isAgg_yes (w:=w) ht
 have hl:=run_loadCells_list (P:=P) w ⟨b,k,none⟩ cs (fun j v hv=>by rw [add_at];exact hc j v hv)
 rw [hn] at hl
 simp only [Instr.loadAt,Instr.sureAddr,loadVar,Sem.run_bind,Sem.run_pure,Result.andThen_ok,h1,if_true,h2,hl]
theorem run_store {t:TypeId} {b k:Nat} {v:Value} {cs:List Value} {T:TypeId} (ht:sizeB P t 1=true) (hv:v.oneCell'=true) (hB:Blk w b cs T) (hk:k<cs.length):
 (Instr.storeAt t (.pointer (some ⟨b,k,none⟩)) v).run P w=.ok () (w.setRow b (cs.set k v).toArray):=by
 have hcells:v.cells= #[v]:=by cases v<;>first|rfl|(cases hv)
 have hs:=run_storeCells_at P b k T [v] 0 cs.toArray w hB (by simp only [Nat.add_zero,List.length_singleton,List.size_toArray];omega) (by simpa using hv)
 have he:(cs.toArray.toList.take (k+0)++[v]++cs.toArray.toList.drop (k+0+[v].length))=cs.set k v:=by
  simp only [Nat.add_zero,List.length_singleton]
  rw [List.set_eq_take_append_cons_drop,if_pos hk]
  simp
 rw [he] at hs
 simp only [Instr.storeAt,Instr.sureAddr,storeVar,Sem.run_bind,Sem.run_pure,Result.andThen_ok,run_sizeOf ht,hcells]
 simp only [List.size_toArray,List.length_singleton,ne_eq,not_true_eq_false,if_false]
 exact hs
theorem run_storeS {t:TypeId} {b k n:Nat} {vs cs:List Value} {T:TypeId} (ht:sizeB P t n=true) (hn:vs.length=n) (h1: ∀ v∈vs,v.oneCell'=true) (hB:Blk w b cs T) (hk:k+n<=cs.length):
 (Instr.storeAt t (.pointer (some ⟨b,k,none⟩)) (.agg vs.toArray)).run P w=.ok () (w.setRow b (cs.take k++vs++cs.drop (k+n)).toArray):=by
 have hs:=run_storeCells_at P b k T vs 0 cs.toArray w hB (by simpa [hn] using hk) h1
 simp only [Nat.add_zero,hn] at hs
 simp only [Instr.storeAt,Instr.sureAddr,storeVar,Sem.run_bind,Sem.run_pure,Result.andThen_ok,run_sizeOf ht,Value.cells]
 simp only [List.size_toArray,hn,ne_eq,not_true_eq_false,if_false]
 exact hs
theorem run_zero {t:TypeId} {z:Value} (hz:(P.info? t).bind (·.zero)=some z):(zeroValue t).run P w=.ok z w:=by
 cases hi:P.info? t with
 |none=>rw [hi] at hz;cases hz
 |some i=>rw [hi] at hz;simp [zeroValue,typeInfo,hi,show i.zero=some z from hz]
theorem run_alloc {t:TypeId} {z:Value} {zs:List Value} (hz:(P.info? t).bind (·.zero)=some z) (hs:z.cells=zs.toArray):
 (Instr.alloc t true (.tuple #[])).run P w=.ok (.pointer (some ⟨w.heap.size,0,none⟩)) (w.alloc (.cells zs.toArray t)):=by
 simp only [Instr.alloc,Sem.run_bind,run_zero hz,Result.andThen_ok,newVar,newRow,newObj,hs]
 rfl
theorem run_box {t:TypeId} {v:Value} {zs:List Value} (hs:v.cells=zs.toArray):
 (Instr.box t v).run P w=.ok (.pointer (some ⟨w.heap.size,0,none⟩)) (w.alloc (.cells zs.toArray t)):=by
 simp only [Instr.box,newVar,newRow,newObj,hs]
 rfl
theorem run_indexAt {t e:TypeId} {sz b o n c:Nat} {k:IntKind} {i:Int} (ht:P.underlying t=some (.slice e)) (hsz:sizeB P e sz=true) (h0:0<=i) (h1:i<n):
 (Instr.indexAt t (.slice (some ⟨b,o,none⟩) n c) (.int k i)).run P w=.ok (.pointer (some ⟨b,o+i.toNat*sz,none⟩)) w:=by
 simp only [Instr.indexAt,asIntOf,Sem.run_bind,Sem.run_pure,Result.andThen_ok,run_underlying ht,h0,h1,and_self,if_true,run_sizeOf hsz,add_at]
theorem run_append_none (base:Nat) (t ty e:TypeId) (size:Nat) (ht:P.underlying t=some (.slice e)) (hsz:sizeB P e size=true)
 (v:Value) (n:Nat) (xs:List Value) (hown:w.ownsRow base e size v n xs) (x:Option Addr) (c:Nat):
 (Builtin.append_ #[t,t] ty #[v,.slice x 0 c]).run P w=.ok v w:=by
 have key: ∀ (ad:Option Addr) (cap:Nat),n<=cap->(Builtin.append_ #[t,t] ty #[.slice ad n cap,.slice x 0 c]).run P w=.ok (.slice ad n cap) w:=by
  intro ad cap hn
  cases ad<;>cases x<;>simp [Builtin.append_,run_underlying ht,run_sizeOf hsz,Builtin.lenOf,hn,Builtin.firstCells,storeCells,loadCells,loadCellsFrom]
 rcases hown.2 with ⟨rfl,rfl⟩|⟨g,cap,cur,rfl,_,_,hn,_⟩
 · exact key none 0 (Nat.le_refl _)
 · exact key _ _ hn
theorem run_append_sl (base:Nat) (t ty e:TypeId) (i:TypeInfo) (z:Value) (size bytes:Nat) (ht:P.underlying t=some (.slice e)) (hi:P.info? e=some i) (hz:i.zero=some z)
 (hsize:i.size=size) (hby:i.bytes=bytes) (hzs:z.cells.size=size) (hsz:0<size)
 (v:Value) (n:Nat) (xs:List Value) (hown:w.ownsRow base e size v n xs) (x:Value) (m:Nat) (news:List Value) (hx:Sl w x size m news) (h1: ∀ u∈news,u.oneCell'=true)
 (h63:n+m<=maxLen) (hbytes:(n+m)*bytes<=140737488355328) (hbase:base<=w.heap.size):
 ∃ v' w',(Builtin.append_ #[t,t] ty #[v,x]).run P w=.ok v' w'/\w'.ownsRow base e size v' (n+m) (xs++news)/\w.grownBy w' v.ownBlock/\
   (∀ b,v'.ownBlock=some b->v.ownBlock=some b\/w.heap.size<=b):=by
 have hsB:sizeB P e size=true:=by simp [sizeB,hi,hsize]
 obtain ⟨hxl,adx,c,rfl,hmc,hat⟩:=hx
 have hx:news.length=m*size/\True:=⟨hxl,trivial⟩
 rcases hat with rfl|⟨b,o,rfl,hat⟩
 · have hn:news=[]:=List.eq_nil_of_length_eq_zero (by simpa using hx.1)
   subst hn
   refine ⟨v,w,run_append_none base t ty e size ht hsB v n xs hown adx c,by simpa using hown,⟨rfl,rfl,rfl,Nat.le_refl _,fun _ _ _=>rfl⟩,fun b hb=>.inl hb⟩
 · obtain ⟨v',w',hr,ho,hg,hnil⟩:=run_append_own (P:=P) w base t ty e i z size bytes ht hi hz hsize hby hzs hsz v n xs hown ⟨b,o,none⟩ m c news hx.1 (fun j u hu=>by rw [add_at];exact hat j u hu) h1 h63 hbytes hbase
   refine ⟨v',w',hr,ho,hg,fun b' hb'=>?_⟩
   by_cases hold:v.ownBlock=some b'
   · exact .inl hold
   · right
     rcases hown.2 with ⟨rfl,rfl⟩|⟨g,cap,cur,rfl,hbg,hgg,hnc,hcm,hcs,htake⟩
     · by_cases hm:m=0
       · subst hm
         have:v'=.slice none 0 0:=hnil.2 ⟨rfl,rfl⟩
         rw [this] at hb';cases hb'
       · have hr2:=run_append_nil (P:=P) w t ty e i z ht hi hz ⟨b,o,none⟩ m c news (by rw [hx.1,hsize]) (fun j u hu=>by rw [add_at];exact hat j u hu) (by omega) (by simp only [maxLen] at h63;omega) (by rw [hby];simp only [Nat.zero_add] at hbytes;omega)
         rw [hr] at hr2
         injection hr2 with hv _
         rw [hv] at hb'
         simp only [Value.ownBlock,Option.some.injEq] at hb'
         omega
     · by_cases hroom:n+m<=cap
       · have hfit:n*i.size+news.length<=cur.size:=by rw [hx.1,hcs,hsize,<-Nat.add_mul];exact Nat.mul_le_mul_right _ hroom
         have hr2:=run_append_room (P:=P) w t ty e i ht hi g n cap cur hgg ⟨b,o,none⟩ m c news (by rw [hx.1,hsize]) (fun j u hu=>by rw [add_at];exact hat j u hu) h1 hroom hfit
         rw [hr] at hr2
         injection hr2 with hv _
         rw [hv] at hb'
         exact absurd hb' hold
       · have hr2:=run_append_grow (P:=P) w t ty e i z ht hi hz ⟨g,0,none⟩ n cap xs (by rw [hown.1,hsize]) (World.ownsRow.cells hown (g:=g) rfl) ⟨b,o,none⟩ m c news (by rw [hx.1,hsize]) (fun j u hu=>by rw [add_at];exact hat j u hu) (by omega) (by simp only [maxLen] at h63;omega) (by rw [hby];exact growslice_fits (by omega) hbytes)
         rw [hr] at hr2
         injection hr2 with hv _
         rw [hv] at hb'
         simp only [Value.ownBlock,Option.some.injEq] at hb'
         omega
end
end Go.Sk
namespace Go.Sk
open Go
section
variable {P:Program} {ops:Array Oper} {rest:List Oper} {o:Oper} {a:Act} {w:World} {Q:Exit->Act->World->Prop}
theorem wl_at (h:wpList P ops Q (o::rest) a w):wpList P ops Q (o::rest) a w:=h
theorem wt (k:Nat) {x1 x2 x3 x4 x5} (h:wpList P ops Q ((⟨some k,x1,x2,x3,x4,x5⟩:Oper)::rest) a w):wpList P ops Q ((⟨some k,x1,x2,x3,x4,x5⟩:Oper)::rest) a w:=h
theorem wl {t x x0 x2 x3 x4 x5} (h:wpList P ops Q ((⟨x0,.load t x,x2,x3,x4,x5⟩:Oper)::rest) a w):wpList P ops Q ((⟨x0,.load t x,x2,x3,x4,x5⟩:Oper)::rest) a w:=h
theorem ws (k:Nat) {t x x2 x3 x4 x5} (h:wpList P ops Q ((⟨some k,.load t x,x2,x3,x4,x5⟩:Oper)::rest) a w):wpList P ops Q ((⟨some k,.load t x,x2,x3,x4,x5⟩:Oper)::rest) a w:=h
theorem wb (k:Nat) {t x x2 x3 x4 x5} (h:wpList P ops Q ((⟨some k,.box t x,x2,x3,x4,x5⟩:Oper)::rest) a w):wpList P ops Q ((⟨some k,.box t x,x2,x3,x4,x5⟩:Oper)::rest) a w:=h
theorem z0 {α:Type} {a b:α} {l:List α}:(a::l).set 0 b=b::l:=rfl
theorem z1 {α:Type} {a b:α} {l:List α} {n:Nat}:(a::l).set (n+1) b=a::l.set n b:=rfl
theorem wl_val {v:Value} {w':World} (hw:Region.wanted o (yielded ops a.tmps)=true) (hr:(execOp a.eval o).run P w=.ok (.value v) w')
 (h:wpList P ops Q rest (a.put o.dst v) w'):wpList P ops Q (o::rest) a w:=by
 unfold wpList
 rw [if_pos hw]
 left
 unfold Oper.wp
 rw [hr]
 exact h
theorem wl_unit {w':World} (hw:Region.wanted o (yielded ops a.tmps)=true) (hr:(execOp a.eval o).run P w=.ok .skip w')
 (h:wpList P ops Q rest (a.put o.dst undef) w'):wpList P ops Q (o::rest) a w:=by
 unfold wpList
 rw [if_pos hw]
 left
 unfold Oper.wp
 rw [hr]
 exact h
theorem wl_pass (hw:Region.wanted o (yielded ops a.tmps)=false) (h:wpList P ops Q rest (a.put o.dst undef) w):wpList P ops Q (o::rest) a w:=by
 unfold wpList
 rw [hw]
 exact h
theorem wl_load {t:TypeId} {x:Operand} {b k:Nat} {v:Value} (ho:o.op=.load t x) (hw:Region.wanted o (yielded ops a.tmps)=true) (hx:a.eval x=.pointer (some ⟨b,k,none⟩))
 (ht:scalarB P t=true) (hc:w.cell? ⟨b,k,none⟩=some v) (h:wpList P ops Q rest (a.put o.dst v) w):wpList P ops Q (o::rest) a w:=
 wl_val hw (v:=v) (w':=w) (by simp only [execOp,ho,hx,Sem.run_bind,run_load ht hc,Result.andThen_ok,Sem.run_pure]) h
theorem wl_loadS {t:TypeId} {x:Operand} {b k n:Nat} {cs:List Value} (ho:o.op=.load t x) (hw:Region.wanted o (yielded ops a.tmps)=true) (hx:a.eval x=.pointer (some ⟨b,k,none⟩))
 (ht:aggB P t n=true) (hn:cs.length=n) (hc:At w b k cs) (h:wpList P ops Q rest (a.put o.dst (.agg cs.toArray)) w):wpList P ops Q (o::rest) a w:=
 wl_val hw (v:=.agg cs.toArray) (w':=w) (by simp only [execOp,ho,hx,Sem.run_bind,run_loadS ht hn hc,Result.andThen_ok,Sem.run_pure]) h
theorem wl_store {t:TypeId} {x y:Operand} {b k:Nat} {v:Value} {cs:List Value} {T:TypeId} (ho:o.op=.store t x y) (hw:Region.wanted o (yielded ops a.tmps)=true) (hx:a.eval x=.pointer (some ⟨b,k,none⟩)) (hy:a.eval y=v)
 (ht:sizeB P t 1=true) (hv:v.oneCell'=true) (hB:Blk w b cs T) (hk:k<cs.length)
 (h: ∀ w',Blk w' b (cs.set k v) T->Mod (only b) w w'->wpList P ops Q rest (a.put o.dst undef) w'):wpList P ops Q (o::rest) a w:=
 wl_unit hw (w':=w.setRow b (cs.set k v).toArray) (by simp only [execOp,ho,hx,hy,Sem.run_bind,run_store ht hv hB hk,Result.andThen_ok,Sem.run_pure])
  (h _ (setRow_heap w b _ _ T _ hB) (Mod.setRow w b _ rfl))
theorem wl_storeS {t:TypeId} {x y:Operand} {b k n:Nat} {vs cs:List Value} {T:TypeId} (ho:o.op=.store t x y) (hw:Region.wanted o (yielded ops a.tmps)=true) (hx:a.eval x=.pointer (some ⟨b,k,none⟩)) (hy:a.eval y=.agg vs.toArray)
 (ht:sizeB P t n=true) (hn:vs.length=n) (hv: ∀ v∈vs,v.oneCell'=true) (hB:Blk w b cs T) (hk:k+n<=cs.length)
 (h: ∀ w',Blk w' b (cs.take k++vs++cs.drop (k+n)) T->Mod (only b) w w'->wpList P ops Q rest (a.put o.dst undef) w'):wpList P ops Q (o::rest) a w:=
 wl_unit hw (w':=w.setRow b (cs.take k++vs++cs.drop (k+n)).toArray) (by simp only [execOp,ho,hx,hy,Sem.run_bind,run_storeS ht hn hv hB hk,Result.andThen_ok,Sem.run_pure])
  (h _ (setRow_heap w b _ _ T _ hB) (Mod.setRow w b _ rfl))
theorem wl_storeW {t:TypeId} {x y:Operand} {b n:Nat} {vs cs:List Value} {T:TypeId} (ho:o.op=.store t x y) (hw:Region.wanted o (yielded ops a.tmps)=true) (hx:a.eval x=.pointer (some ⟨b,0,none⟩)) (hy:a.eval y=.agg vs.toArray)
 (ht:sizeB P t n=true) (hn:vs.length=n) (hv: ∀ v∈vs,v.oneCell'=true) (hB:Blk w b cs T) (hk:cs.length=n)
 (h: ∀ w',Blk w' b vs T->Mod (only b) w w'->wpList P ops Q rest (a.put o.dst undef) w'):wpList P ops Q (o::rest) a w:=by
 refine wl_storeS ho hw hx hy ht hn hv hB (by omega) fun w' hB' hm=>h w' ?_ hm
 have:cs.take 0++vs++cs.drop (0+n)=vs:=by
  rw [List.drop_of_length_le (by omega)];simp
 rwa [this] at hB'
theorem wl_alloc {t:TypeId} {z:Value} {zs:List Value} (ho:o.op=.alloc t) (hw:Region.wanted o (yielded ops a.tmps)=true) (hz:(P.info? t).bind (·.zero)=some z) (hs:z.cells=zs.toArray)
 (h: ∀ w' b,w.heap.size<=b->Blk w' b zs t->Mod none' w w'->wpList P ops Q rest (a.put o.dst (.pointer (some ⟨b,0,none⟩))) w'):wpList P ops Q (o::rest) a w:=
 wl_val hw (v:=.pointer (some ⟨w.heap.size,0,none⟩)) (w':=w.alloc (.cells zs.toArray t)) (by simp only [execOp,ho,Sem.run_bind,run_alloc hz hs,Result.andThen_ok,Sem.run_pure])
  (h _ _ (Nat.le_refl _) (Blk.new w zs t) (Mod.alloc w _))
theorem wl_box {t:TypeId} {x:Operand} {v:Value} {zs:List Value} (ho:o.op=.box t x) (hw:Region.wanted o (yielded ops a.tmps)=true) (hx:a.eval x=v) (hs:v.cells=zs.toArray)
 (h: ∀ w' b,w.heap.size<=b->Blk w' b zs t->Mod none' w w'->wpList P ops Q rest (a.put o.dst (.pointer (some ⟨b,0,none⟩))) w'):wpList P ops Q (o::rest) a w:=
 wl_val hw (v:=.pointer (some ⟨w.heap.size,0,none⟩)) (w':=w.alloc (.cells zs.toArray t)) (by simp only [execOp,ho,hx,Sem.run_bind,run_box hs,Result.andThen_ok,Sem.run_pure])
  (h _ _ (Nat.le_refl _) (Blk.new w zs t) (Mod.alloc w _))
theorem wl_indexAddr {t e:TypeId} {x y:Operand} {sz b k n c:Nat} {kd:IntKind} {i:Int} (ho:o.op=.indexAddr t x y) (hw:Region.wanted o (yielded ops a.tmps)=true) (hx:a.eval x=.slice (some ⟨b,k,none⟩) n c) (hy:a.eval y=.int kd i)
 (ht:P.underlying t=some (.slice e)) (hsz:sizeB P e sz=true) (h0:0<=i) (h1:i<n)
 (h:wpList P ops Q rest (a.put o.dst (.pointer (some ⟨b,k+i.toNat*sz,none⟩))) w):wpList P ops Q (o::rest) a w:=
 wl_val hw (v:=.pointer (some ⟨b,k+i.toNat*sz,none⟩)) (w':=w) (by simp only [execOp,ho,hx,hy,Sem.run_bind,run_indexAt ht hsz h0 h1,Result.andThen_ok,Sem.run_pure]) h
theorem wl_append {s x:Operand} {t e:TypeId} {i:TypeInfo} {z:Value} {size bytes:Nat} {v y:Value} {n m:Nat} {xs news:List Value}
 (ho:o.op=.call {callee:=.builtin .append,args:= #[s,x],argTypes:= #[t,t]}) (hw:Region.wanted o (yielded ops a.tmps)=true) (hs:a.eval s=v) (hx:a.eval x=y)
 (ht:P.underlying t=some (.slice e)) (hi:P.info? e=some i) (hz:i.zero=some z) (hsize:i.size=size) (hby:i.bytes=bytes) (hzs:z.cells.size=size) (hsz:0<size)
 (hown:Own w e size v n xs) (hsl:Sl w y size m news) (h1: ∀ u∈news,u.oneCell'=true) (h63:n+m<=maxLen) (hbytes:(n+m)*bytes<=140737488355328)
 (h: ∀ v' w',Own w' e size v' (n+m) (xs++news)->Mod (fun b=>v.ownBlock=some b) w w'->(∀ b,v'.ownBlock=some b->v.ownBlock=some b\/w.heap.size<=b)->wpList P ops Q rest (a.put o.dst v') w'):
 wpList P ops Q (o::rest) a w:=by
 obtain ⟨v',w',hr,h2,h3,h4⟩:=run_append_sl (P:=P) (w:=w) 0 t o.type e i z size bytes ht hi hz hsize hby hzs hsz v n xs hown y m news hsl h1 h63 hbytes (Nat.zero_le _)
 refine wl_val hw (v:=v') (w':=w') ?_ (h v' w' h2 (Mod.of_grown h3 fun b hb=>hb) h4)
 unfold execOp
 simp only [ho,resolve,invoke,builtin,Sem.run_bind,Sem.run_pure,Result.andThen_ok,List.map_toArray,List.map_cons,List.map_nil,hs,hx,hr]
theorem run_slice_to {t e:TypeId} {sz:Nat} (ht:P.underlying t=some (.slice e)) (hsz:sizeB P e sz=true) {b k n c:Nat} {k1:IntKind} {hi:Int} (h0:0<=hi) (h1:hi<=c):
 (Instr.sliceAt t (.slice (some ⟨b,k,none⟩) n c) none (some (.int k1 hi)) none).run P w=.ok (.slice (some ⟨b,k,none⟩) hi.toNat c) w:=by
 simp only [Instr.sliceAt,Instr.slice,Instr.sliceBounds,Instr.sliceBound,asIntOf,Sem.run_bind,Sem.run_pure,Result.andThen_ok,run_underlying ht,h0,h1,and_self,if_true,run_sizeOf hsz,Nat.sub_zero,Nat.zero_mul]
 split
 · rfl
 · simp [Addr.add]
theorem wl_slice_to {t e:TypeId} {x y:Operand} {sz b k n c:Nat} {kd:IntKind} {i:Int} (ho:o.op=.slice t x none (some y) none) (hw:Region.wanted o (yielded ops a.tmps)=true) (hx:a.eval x=.slice (some ⟨b,k,none⟩) n c) (hy:a.eval y=.int kd i)
 (ht:P.underlying t=some (.slice e)) (hsz:sizeB P e sz=true) (h0:0<=i) (h1:i<=c)
 (h:wpList P ops Q rest (a.put o.dst (.slice (some ⟨b,k,none⟩) i.toNat c)) w):wpList P ops Q (o::rest) a w:=
 wl_val hw (w':=w) (by simp only [execOp,ho,hx,hy,Option.map_none,Option.map_some,Sem.run_bind,run_slice_to ht hsz h0 h1,Result.andThen_ok,Sem.run_pure]) h
end
theorem res_cellS {P:Program} {w:World} {fn:Func} {p:Tmp} {ty:TypeId} (h:fn.results= #[.cell p ty]) (tmps:Array Value) {b n:Nat} {cs:List Value} (hp:tmps.getD p undef=.pointer (some ⟨b,0,none⟩))
 (ht:aggB P ty n=true) (hn:cs.length=n) (hc:At w b 0 cs):(results fn tmps).run P w=.ok (.agg cs.toArray) w:=by
 have hl:=run_loadS (P:=P) (w:=w) ht hn hc
 simp only [Instr.loadAt,Instr.sureAddr,Sem.run_bind,Sem.run_pure,Result.andThen_ok] at hl
 have hp':tmps[p]?.getD undef=.pointer (some ⟨b,0,none⟩):=by simpa using hp
 simp [results,h,hp',asAddr,hl]
theorem res_cellS_tmp {P:Program} {w:World} {fn:Func} {p t:Tmp} {ty:TypeId} (h:fn.results= #[.cell p ty,.tmp t]) (tmps:Array Value) {b n:Nat} {cs:List Value} (hp:tmps.getD p undef=.pointer (some ⟨b,0,none⟩))
 (ht:aggB P ty n=true) (hn:cs.length=n) (hc:At w b 0 cs):(results fn tmps).run P w=.ok (.tuple #[.agg cs.toArray,tmps.getD t undef]) w:=by
 have hl:=run_loadS (P:=P) (w:=w) ht hn hc
 simp only [Instr.loadAt,Instr.sureAddr,Sem.run_bind,Sem.run_pure,Result.andThen_ok] at hl
 have hp':tmps[p]?.getD undef=.pointer (some ⟨b,0,none⟩):=by simpa using hp
 simp [results,h,hp',asAddr,hl]
end Go.Sk
namespace Go.Sk
open Go
def kindsOf (P:Program):Nat->TypeId->Option (List (Option IntKind))
 |0,_=>none
 |d+1,t=>
  match P.underlying t with
  |some (.int k)=>some [some k]
  |some .bool=>some [none]
  |some (.struct fs)=>if P.stoodInHeld t then none else fieldKinds (kindsOf P d) fs.toList 0
  |_=>none
where
 fieldKinds (K:TypeId->Option (List (Option IntKind))):List Field->Nat->Option (List (Option IntKind))
 |[],_=>some []
 |f::fs,off=>
  if f.name="_"\/f.offset≠off then none else
  match K f.type with
  |none=>none
  |some a=>if sizeB P f.type a.length then (fieldKinds K fs (off+a.length)).map (a++ ·) else none
def ofKind:Option IntKind->Value->Bool
 |some k,.int k' _=>k == k'
 |none,.bool _=>true
 |_,_=>false
def ofKinds:List (Option IntKind)->List Value->Bool
 |[],[]=>true
 |k::ks,v::vs=>ofKind k v && ofKinds ks vs
 |_,_=>false
def cellEq:Value->Value->Bool
 |.int _ a,.int _ b=>a == b
 |.bool a,.bool b=>a == b
 |_,_=>false
def cellsEq:List Value->List Value->Bool
 |[],[]=>true
 |a::as,b::bs=>cellEq a b && cellsEq as bs
 |_,_=>false
theorem ofKinds_append: ∀ (a b:List (Option IntKind)) (vs:List Value),ofKinds (a++b) vs=true->ofKinds a (vs.take a.length)=true/\ofKinds b (vs.drop a.length)=true
 |[],b,vs,h=>⟨by simp [ofKinds],by simpa using h⟩
 |k::a,b,[],h=>by simp [ofKinds] at h
 |k::a,b,v::vs,h=>by
  simp only [List.cons_append,ofKinds,Bool.and_eq_true] at h
  obtain ⟨h1,h2⟩:=ofKinds_append a b vs h.2
  exact ⟨by simp [ofKinds,h.1,h1],by simpa using h2⟩
theorem ofKinds_length: ∀ (a:List (Option IntKind)) (vs:List Value),ofKinds a vs=true->vs.length=a.length
 |[],[],_=>rfl
 |[],_::_,h=>by simp [ofKinds] at h
 |_::_,[],h=>by simp [ofKinds] at h
 |k::a,v::vs,h=>by
  simp only [ofKinds,Bool.and_eq_true] at h
  simp [ofKinds_length a vs h.2]
theorem cellsEq_append: ∀ (a b c d:List Value),a.length=c.length->cellsEq (a++b) (c++d)=(cellsEq a c && cellsEq b d)
 |[],b,[],d,_=>by simp [cellsEq]
 |[],_,_::_,_,h=>by simp at h
 |_::_,_,[],_,h=>by simp at h
 |x::a,b,y::c,d,h=>by
  simp only [List.cons_append,cellsEq,cellsEq_append a b c d (by simpa using h),Bool.and_assoc]
section
variable {P:Program}
def valOf (P:Program) (t:TypeId) (xs:List Value):Value:=
 match P.underlying t with
 |some (.struct _)=>.agg xs.toArray
 |_=>xs.headD undef
theorem run_part {t:TypeId} {d:Nat} {ks:List (Option IntKind)} (hk:kindsOf P d t=some ks) (hs:sizeB P t ks.length=true) (xs:List Value) (off:Nat) (w:World) (hx:off+ks.length<=xs.length):
 (part t xs.toArray off).run P w=.ok (valOf P t ((xs.drop off).take ks.length)) w:=by
 cases d with
 |zero=>simp [kindsOf] at hk
 |succ d=>
  unfold kindsOf at hk
  unfold part valOf isAgg
  cases hu:P.underlying t with
  |none=>rw [hu] at hk;cases hk
  |some dsc=>
   rw [hu] at hk
   cases dsc<;>simp only [] at hk<;>first|(cases hk;done)|skip
   case int k=>
    injection hk with hk
    subst hk
    simp only [List.length_singleton] at hx
    simp only [Sem.run_bind,run_underlying hu,Result.andThen_ok,Sem.run_pure,Bool.false_eq_true,if_false]
    have h1:xs.toArray[off]?=some (xs[off]'(by omega)):=by simp [show off<xs.length by omega]
    rw [h1]
    simp only [Sem.run_pure]
    rw [List.drop_eq_getElem_cons (show off<xs.length by omega)]
    rfl
   case bool=>
    injection hk with hk
    subst hk
    simp only [List.length_singleton] at hx
    simp only [Sem.run_bind,run_underlying hu,Result.andThen_ok,Sem.run_pure,Bool.false_eq_true,if_false]
    have h1:xs.toArray[off]?=some (xs[off]'(by omega)):=by simp [show off<xs.length by omega]
    rw [h1]
    simp only [Sem.run_pure]
    rw [List.drop_eq_getElem_cons (show off<xs.length by omega)]
    rfl
   case struct fs=>
    simp only [Sem.run_bind,run_underlying hu,Result.andThen_ok,Sem.run_pure,if_true,run_sizeOf hs]
    have:xs.toArray.extract off (off+ks.length)=((xs.drop off).take ks.length).toArray:=by
     rw [List.extract_toArray,List.extract_eq_take_drop];congr 2;omega
    rw [this]
theorem run_eqFields (d:Nat) (ih: ∀ (t:TypeId) (ks:List (Option IntKind)) (xs ys:List Value) (w:World),kindsOf P d t=some ks->ofKinds ks xs=true->ofKinds ks ys=true->
 (Op.equalIn d t (valOf P t xs) (valOf P t ys)).run P w=.ok (cellsEq xs ys) w) (w:World):
 ∀ (fs:List Field) (off:Nat) (ks:List (Option IntKind)) (xs ys:List Value),kindsOf.fieldKinds P (kindsOf P d) fs off=some ks->ofKinds ks (xs.drop off)=true->ofKinds ks (ys.drop off)=true->off<=xs.length->off<=ys.length->
   (Op.eqFields d xs.toArray ys.toArray fs).run P w=.ok (cellsEq (xs.drop off) (ys.drop off)) w
 |[],off,ks,xs,ys,hk,hx,hy,_,_=>by
  simp only [kindsOf.fieldKinds,Option.some.injEq] at hk
  subst hk
  have h1:=ofKinds_length _ _ hx
  have h2:=ofKinds_length _ _ hy
  have e1:xs.drop off=[]:=List.eq_nil_of_length_eq_zero h1
  have e2:ys.drop off=[]:=List.eq_nil_of_length_eq_zero h2
  simp [Op.eqFields,e1,e2,cellsEq]
 |f::fs,off,ks,xs,ys,hk,hx,hy,lx,ly=>by
  unfold kindsOf.fieldKinds at hk
  by_cases hc:f.name="_"\/f.offset≠off
  · rw [if_pos hc] at hk;cases hk
  · rw [if_neg hc] at hk
    have hn:f.name≠"_":=fun h=>hc (.inl h)
    have ho:f.offset=off:=Classical.byContradiction fun h=>hc (.inr h)
    cases ha:kindsOf P d f.type with
    |none=>rw [ha] at hk;cases hk
    |some a=>
     rw [ha] at hk
     simp only [] at hk
     by_cases hsz:sizeB P f.type a.length=true
     · rw [if_pos hsz] at hk
       cases hr:kindsOf.fieldKinds P (kindsOf P d) fs (off+a.length) with
       |none=>rw [hr] at hk;cases hk
       |some b=>
        rw [hr] at hk
        simp only [Option.map_some,Option.some.injEq] at hk
        subst hk
        obtain ⟨x1,x2⟩:=ofKinds_append a b _ hx
        obtain ⟨y1,y2⟩:=ofKinds_append a b _ hy
        have lx':a.length<=(xs.drop off).length:=by have:=ofKinds_length _ _ hx;simp at this;simp;omega
        have ly':a.length<=(ys.drop off).length:=by have:=ofKinds_length _ _ hy;simp at this;simp;omega
        simp only [List.length_drop] at lx' ly'
        rw [List.drop_drop] at x2 y2
        have hrest:=run_eqFields d ih w fs (off+a.length) b xs ys hr x2 y2 (by omega) (by omega)
        unfold Op.eqFields
        rw [if_pos hn]
        simp only [ho,Sem.run_bind,run_part ha hsz xs off w (by omega),run_part ha hsz ys off w (by omega),Result.andThen_ok,ih f.type a _ _ w ha x1 y1]
        have hsplit:cellsEq (xs.drop off) (ys.drop off)=(cellsEq ((xs.drop off).take a.length) ((ys.drop off).take a.length) && cellsEq (xs.drop (off+a.length)) (ys.drop (off+a.length))):=by
         have e1:xs.drop off=(xs.drop off).take a.length++xs.drop (off+a.length):=by rw [<-List.drop_drop,List.take_append_drop]
         have e2:ys.drop off=(ys.drop off).take a.length++ys.drop (off+a.length):=by rw [<-List.drop_drop,List.take_append_drop]
         conv=>lhs;rw [e1,e2]
         exact cellsEq_append _ _ _ _ (by simp only [List.length_take,List.length_drop];omega)
        rw [hsplit]
        cases hq:cellsEq ((xs.drop off).take a.length) ((ys.drop off).take a.length)
        · simp
        · simpa using hrest
     · rw [if_neg hsz] at hk;cases hk
theorem run_equalIn_kinds: ∀ (d:Nat) (t:TypeId) (ks:List (Option IntKind)) (xs ys:List Value) (w:World),kindsOf P d t=some ks->ofKinds ks xs=true->ofKinds ks ys=true->
 (Op.equalIn d t (valOf P t xs) (valOf P t ys)).run P w=.ok (cellsEq xs ys) w
 |0,_,_,_,_,_,hk,_,_=>by simp [kindsOf] at hk
 |d+1,t,ks,xs,ys,w,hk,hx,hy=>by
  unfold kindsOf at hk
  cases hu:P.underlying t with
  |none=>rw [hu] at hk;cases hk
  |some dsc=>
   rw [hu] at hk
   cases dsc<;>simp only [] at hk<;>first|(cases hk;done)|skip
   case int k=>
    injection hk with hk
    subst hk
    obtain ⟨x,rfl⟩:=List.length_eq_one_iff.1 (ofKinds_length _ _ hx)
    obtain ⟨y,rfl⟩:=List.length_eq_one_iff.1 (ofKinds_length _ _ hy)
    simp only [ofKinds,Bool.and_true] at hx hy
    cases x<;>simp [ofKind] at hx
    cases y<;>simp [ofKind] at hy
    subst hx hy
    simp [valOf,hu,Op.equalIn,run_underlying hu,cellsEq,cellEq]
   case bool=>
    injection hk with hk
    subst hk
    obtain ⟨x,rfl⟩:=List.length_eq_one_iff.1 (ofKinds_length _ _ hx)
    obtain ⟨y,rfl⟩:=List.length_eq_one_iff.1 (ofKinds_length _ _ hy)
    simp only [ofKinds,Bool.and_true] at hx hy
    cases x<;>simp [ofKind] at hx
    cases y<;>simp [ofKind] at hy
    simp [valOf,hu,Op.equalIn,run_underlying hu,cellsEq,cellEq]
   case struct fs=>
    split at hk
    · cases hk
    · rename_i hst
      have hf:P.fieldsOf t=fs:=by simp [Program.fieldsOf,hu]
      have hv: ∀ zs:List Value,valOf P t zs=.agg zs.toArray:=fun zs=>by simp [valOf,hu]
      rw [hv,hv,run_equalIn_struct w d t _ _ (by rw [hf];exact hu) (by simpa using hst),hf]
      have:=run_eqFields d (fun t ks xs ys w=>run_equalIn_kinds d t ks xs ys w) w fs.toList 0 ks xs ys hk (by simpa using hx) (by simpa using hy) (Nat.zero_le _) (Nat.zero_le _)
      simpa using this
def aggStruct (P:Program) (t:TypeId):Bool:=match P.underlying t with|some (.struct _)=>true|_=>false
def eqTy (P:Program) (t:TypeId) (ks:List (Option IntKind)):Bool:=aggStruct P t && (kindsOf P 9 t == some ks) && !P.eqGuardType P.depth t
theorem kindsOf_mono (P:Program): ∀ (d:Nat) (t:TypeId) (ks:List (Option IntKind)),kindsOf P d t=some ks->kindsOf P (d+1) t=some ks
 |0,_,_,h=>by simp [kindsOf] at h
 |d+1,t,ks,h=>by
  have hf: ∀ (fs:List Field) (off:Nat) (ks:List (Option IntKind)),kindsOf.fieldKinds P (kindsOf P d) fs off=some ks->kindsOf.fieldKinds P (kindsOf P (d+1)) fs off=some ks:=by
   intro fs
   induction fs with
   |nil=>intro off ks h;exact h
   |cons f fs ih=>
    intro off ks h
    unfold kindsOf.fieldKinds at h ⊢
    split at h
    · cases h
    · rename_i hc
      rw [if_neg hc]
      cases ha:kindsOf P d f.type with
      |none=>rw [ha] at h;cases h
      |some a=>
       rw [ha] at h
       rw [kindsOf_mono P d f.type a ha]
       simp only [] at h ⊢
       split at h
       · rename_i hs
         rw [if_pos hs]
         cases hr:kindsOf.fieldKinds P (kindsOf P d) fs (off+a.length) with
         |none=>rw [hr] at h;cases h
         |some b=>rw [hr] at h;rw [ih _ _ hr];exact h
       · cases h
  unfold kindsOf at h ⊢
  cases hu:P.underlying t with
  |none=>rw [hu] at h;cases h
  |some dsc=>
   rw [hu] at h
   cases dsc<;>first|exact h|skip
   simp only [] at h ⊢
   split at h
   · cases h
   · rename_i hs;rw [if_neg hs];exact hf _ _ _ h
theorem kindsOf_le (P:Program) (t:TypeId) (ks:List (Option IntKind)) (d:Nat) (h:kindsOf P d t=some ks): ∀ n,kindsOf P (d+n) t=some ks
 |0=>h
 |n+1=>kindsOf_mono P (d+n) t ks (kindsOf_le P t ks d h n)
theorem run_equal_struct {t:TypeId} {ks:List (Option IntKind)} {xs ys:List Value} (w:World) (ht:eqTy P t ks=true) (hx:ofKinds ks xs=true) (hy:ofKinds ks ys=true):
 (Op.equal t (.agg xs.toArray) (.agg ys.toArray)).run P w=.ok (cellsEq xs ys) w:=by
 simp only [eqTy,Bool.and_eq_true,beq_iff_eq] at ht
 obtain ⟨⟨h1,h2⟩,_⟩:=ht
 have hv: ∀ zs:List Value,valOf P t zs=.agg zs.toArray:=fun zs=>by
  unfold aggStruct at h1;unfold valOf
  cases hu:P.underlying t with
  |none=>rw [hu] at h1;cases h1
  |some d=>rw [hu] at h1;cases d<;>first|rfl|(cases h1;done)
 have:=run_equalIn_kinds Op.maxDepth t ks xs ys w (kindsOf_le P t ks 9 h2 9991) hx hy
 rwa [hv,hv] at this
theorem run_guard_struct {op:BinOp} {t:TypeId} {ks:List (Option IntKind)} {xs ys:Array Value} {X Y:Operand} (w:World) (ht:eqTy P t ks=true):(eqGuard op t X Y (.agg xs) (.agg ys)).run P w=.ok () w:=by
 simp only [eqTy,Bool.and_eq_true,Bool.not_eq_true'] at ht
 unfold eqGuard
 split<;>simp [program,Sem.run,Pure.pure,Bind.bind,Sem.bind,ht.2]
theorem run_eql_struct {t:TypeId} {ks:List (Option IntKind)} {xs ys:List Value} {X Y:Operand} (w:World) (ht:eqTy P t ks=true) (hx:ofKinds ks xs=true) (hy:ofKinds ks ys=true):
 (do eqGuard .eql t X Y (.agg xs.toArray) (.agg ys.toArray);binOp .eql t (.agg xs.toArray) (.agg ys.toArray):Sem Value).run P w=.ok (.bool (cellsEq xs ys)) w:=by
 rw [Sem.run_bind,run_guard_struct w ht]
 simp only [Result.andThen_ok,binOp,Sem.run_bind,run_equal_struct w ht hx hy,Sem.run_pure]
theorem run_neq_struct {t:TypeId} {ks:List (Option IntKind)} {xs ys:List Value} {X Y:Operand} (w:World) (ht:eqTy P t ks=true) (hx:ofKinds ks xs=true) (hy:ofKinds ks ys=true):
 (do eqGuard .neq t X Y (.agg xs.toArray) (.agg ys.toArray);binOp .neq t (.agg xs.toArray) (.agg ys.toArray):Sem Value).run P w=.ok (.bool (!cellsEq xs ys)) w:=by
 rw [Sem.run_bind,run_guard_struct w ht]
 simp only [Result.andThen_ok,binOp,Sem.run_bind,run_equal_struct w ht hx hy,Sem.run_pure]
section
variable {ops:Array Oper} {rest:List Oper} {o:Oper} {a:Act} {w:World} {Q:Exit->Act->World->Prop}
theorem wl_eqlS {t yt:TypeId} {x y:Operand} {ks:List (Option IntKind)} {xs ys:List Value} (ho:o.op=.binOp .eql t x y yt) (hw:Region.wanted o (yielded ops a.tmps)=true) (hx:a.eval x=.agg xs.toArray) (hy:a.eval y=.agg ys.toArray)
 (ht:eqTy P t ks=true) (kx:ofKinds ks xs=true) (ky:ofKinds ks ys=true) (h:wpList P ops Q rest (a.put o.dst (.bool (cellsEq xs ys))) w):wpList P ops Q (o::rest) a w:=
 wl_val hw (w':=w) (by simp only [execOp,ho,hx,hy];rw [Sem.run_bind,run_eql_struct w ht kx ky];rfl) h
theorem wl_neqS {t yt:TypeId} {x y:Operand} {ks:List (Option IntKind)} {xs ys:List Value} (ho:o.op=.binOp .neq t x y yt) (hw:Region.wanted o (yielded ops a.tmps)=true) (hx:a.eval x=.agg xs.toArray) (hy:a.eval y=.agg ys.toArray)
 (ht:eqTy P t ks=true) (kx:ofKinds ks xs=true) (ky:ofKinds ks ys=true) (h:wpList P ops Q rest (a.put o.dst (.bool (!cellsEq xs ys))) w):wpList P ops Q (o::rest) a w:=
 wl_val hw (w':=w) (by simp only [execOp,ho,hx,hy];rw [Sem.run_bind,run_neq_struct w ht kx ky];rfl) h
end
end
end Go.Sk
namespace Go.Sk
open Go
structure Cell where
 x:Int
 y:Int
 deriving DecidableEq
structure Pose where
 at_:Cell
 down:Bool
 deriving DecidableEq
structure Move where
 kind:Int
 dir:Int
 n:Int
 src:Pose
 dst:Pose
 at_:Int
 fin:Int
 deriving DecidableEq
structure Tele where
 kind:Int
 robot:Int
 epoch:Int
 num:Int
 move:Move
 pose:Pose
 load:Int
 deriving DecidableEq
def Cell.cells (c:Cell):List Value:=[.int .i64 c.x,.int .i64 c.y]
def Pose.cells (p:Pose):List Value:=[.int .i64 p.at_.x,.int .i64 p.at_.y,.bool p.down]
def Move.cells (m:Move):List Value:=[.int .i64 m.kind,.int .i64 m.dir,.int .i64 m.n,.int .i64 m.src.at_.x,.int .i64 m.src.at_.y,.bool m.src.down,.int .i64 m.dst.at_.x,.int .i64 m.dst.at_.y,.bool m.dst.down,.int .i64 m.at_,.int .i64 m.fin]
def Tele.cells (t:Tele):List Value:=[.int .i64 t.kind,.int .i64 t.robot,.int .i64 t.epoch,.int .i64 t.num,
 .int .i64 t.move.kind,.int .i64 t.move.dir,.int .i64 t.move.n,.int .i64 t.move.src.at_.x,.int .i64 t.move.src.at_.y,.bool t.move.src.down,.int .i64 t.move.dst.at_.x,.int .i64 t.move.dst.at_.y,.bool t.move.dst.down,.int .i64 t.move.at_,.int .i64 t.move.fin,
 .int .i64 t.pose.at_.x,.int .i64 t.pose.at_.y,.bool t.pose.down,.int .i64 t.load]
def kI:Option IntKind:=some .i64
def kB:Option IntKind:=none
def cellKs:List (Option IntKind):=[kI,kI]
def poseKs:List (Option IntKind):=[kI,kI,kB]
def moveKs:List (Option IntKind):=[kI,kI,kI,kI,kI,kB,kI,kI,kB,kI,kI]
def teleKs:List (Option IntKind):=[kI,kI,kI,kI,kI,kI,kI,kI,kI,kB,kI,kI,kB,kI,kI,kI,kI,kB,kI]
theorem Cell.ks (c:Cell):ofKinds cellKs c.cells=true:=rfl
theorem Pose.ks (c:Pose):ofKinds poseKs c.cells=true:=rfl
theorem Move.ks (c:Move):ofKinds moveKs c.cells=true:=rfl
theorem Tele.ks (c:Tele):ofKinds teleKs c.cells=true:=rfl
theorem Cell.eq (a b:Cell):cellsEq a.cells b.cells=decide (a=b):=by
 obtain ⟨x,y⟩:=a;obtain ⟨x',y'⟩:=b
 rw [Bool.eq_iff_iff]
 simp [Cell.cells,cellsEq,cellEq]
theorem Pose.eq (a b:Pose):cellsEq a.cells b.cells=decide (a=b):=by
 obtain ⟨⟨x,y⟩,d⟩:=a;obtain ⟨⟨x',y'⟩,d'⟩:=b
 rw [Bool.eq_iff_iff]
 simp [Pose.cells,cellsEq,cellEq,and_assoc]
theorem Tele.eq (a b:Tele):cellsEq a.cells b.cells=decide (a=b):=by
 obtain ⟨k,r,ep,nu,⟨mk,d,n,⟨⟨x,y⟩,e⟩,⟨⟨z,u⟩,f⟩,at1,e1⟩,⟨⟨p,q⟩,g⟩,l⟩:=a;obtain ⟨k',r',ep',nu',⟨mk',d',n',⟨⟨x',y'⟩,e'⟩,⟨⟨z',u'⟩,f'⟩,at1',e1'⟩,⟨⟨p',q'⟩,g'⟩,l'⟩:=b
 rw [Bool.eq_iff_iff]
 simp [Tele.cells,cellsEq,cellEq,and_assoc]
theorem ofKinds_one: ∀ (ks:List (Option IntKind)) (vs:List Value),ofKinds ks vs=true-> ∀ v∈vs,v.oneCell'=true
 |[],[],_,_,h=>by simp at h
 |[],_::_,h,_,_=>by simp [ofKinds] at h
 |_::_,[],_,_,h=>by simp at h
 |k::ks,v::vs,h,u,hu=>by
  simp only [ofKinds,Bool.and_eq_true] at h
  rcases List.mem_cons.1 hu with rfl|hu
  · cases k<;>cases u<;>first|rfl|(simp [ofKind] at h)
  · exact ofKinds_one ks vs h.2 u hu
def flat {α:Type} (c:α->List Value) (l:List α):List Value:=l.flatMap c
theorem flat_length {α:Type} (c:α->List Value) (n:Nat) (h: ∀ x,(c x).length=n): ∀ l:List α,(flat c l).length=l.length*n
 |[]=>by simp [flat]
 |x::l=>by
  have:=flat_length c n h l
  unfold flat at*
  rw [List.flatMap_cons,List.length_append,h,this,List.length_cons,Nat.succ_mul,Nat.add_comm]
theorem flat_append {α:Type} (c:α->List Value) (a b:List α):flat c (a++b)=flat c a++flat c b:=by simp [flat]
theorem flat_get {α:Type} (c:α->List Value) (n:Nat) (h: ∀ x,(c x).length=n): ∀ (l:List α) (i:Nat) (x:α),l[i]?=some x-> ∀ j u,(c x)[j]?=some u->(flat c l)[i*n+j]?=some u
 |[],_,_,hi,_,_,_=>by simp at hi
 |y::l,0,x,hi,j,u,hu=>by
  simp only [List.getElem?_cons_zero,Option.some.injEq] at hi
  subst hi
  have hj:j<(c y).length:=(List.getElem?_eq_some_iff.1 hu).1
  unfold flat
  rw [List.flatMap_cons,Nat.zero_mul,Nat.zero_add,List.getElem?_append_left hj]
  exact hu
 |y::l,i+1,x,hi,j,u,hu=>by
  have ih:=flat_get c n h l i x (by simpa using hi) j u hu
  unfold flat at*
  rw [List.flatMap_cons,List.getElem?_append_right (by rw [h,Nat.succ_mul];omega),h]
  rw [show (i+1)*n+j - n=i*n+j from by rw [Nat.succ_mul];omega]
  exact ih
theorem flat_take {α:Type} (c:α->List Value) (n:Nat) (h: ∀ x,(c x).length=n): ∀ (l:List α) (k:Nat),flat c (l.take k)=(flat c l).take (k*n)
 |[],k=>by simp [flat]
 |_::_,0=>by simp [flat]
 |y::l,k+1=>by
  have ih:=flat_take c n h l k
  unfold flat at*
  rw [List.take_succ_cons,List.flatMap_cons,List.flatMap_cons,ih,Nat.succ_mul,Nat.add_comm (k*n) n,<-h y,List.take_length_add_append]
theorem flat_drop {α:Type} (c:α->List Value) (n:Nat) (h: ∀ x,(c x).length=n): ∀ (l:List α) (k:Nat),flat c (l.drop k)=(flat c l).drop (k*n)
 |[],k=>by simp [flat]
 |y::l,0=>by simp
 |y::l,k+1=>by
  have ih:=flat_drop c n h l k
  unfold flat at*
  rw [List.drop_succ_cons,List.flatMap_cons,ih,Nat.succ_mul,Nat.add_comm (k*n) n,<-h y,List.drop_length_add_append]
theorem At.elem {α:Type} {w:World} {b o:Nat} {c:α->List Value} {n:Nat} {l:List α} (hat:At w b o (flat c l)) (h: ∀ x,(c x).length=n) {i:Nat} {x:α} (hi:l[i]?=some x):At w b (o+i*n) (c x):=
 hat.part (i*n) fun j u hu=>flat_get c n h l i x hi j u hu
end Go.Sk
namespace Go.Sk
open Go
section
variable {P:Program} {w:World}
variable {ops:Array Oper} {rest:List Oper} {o:Oper} {a:Act} {Q:Exit->Act->World->Prop}
theorem wl_copy {x y:Operand} {t t2 e:TypeId} {size g n c:Nat} {v:Value} {m:Nat} {cur news:List Value}
 (ho:o.op=.call {callee:=.builtin .copy,args:= #[x,y],argTypes:= #[t,t2]}) (hw:Region.wanted o (yielded ops a.tmps)=true) (hx:a.eval x=.slice (some ⟨g,0,none⟩) n c) (hy:a.eval y=v)
 (ht:P.underlying t=some (.slice e)) (hsz:sizeB P e size=true) (hB:Blk w g cur e) (hcur:n*size<=cur.length) (hsl:Sl w v size m news) (h1: ∀ u∈news,u.oneCell'=true) (hmn:m<=n)
 (h: ∀ w',Blk w' g (news++cur.drop (m*size)) e->Mod (only g) w w'->wpList P ops Q rest (a.put o.dst (.int .i64 m)) w'):
 wpList P ops Q (o::rest) a w:=by
 have hle:m*size<=n*size:=Nat.mul_le_mul_right _ hmn
 have hmin:Nat.min m n=m:=Nat.min_eq_left hmn
 obtain ⟨hsl1,adx,c',rfl,hmc,hat⟩:=hsl
 have hsl:news.length=m*size/\True:=⟨hsl1,trivial⟩
 rcases hat with rfl|⟨b,of,rfl,hat⟩
 · have hn:news=[]:=List.eq_nil_of_length_eq_zero (by simpa using hsl.1)
   subst hn
   refine wl_val hw (v:=.int .i64 (0:Nat)) (w':=w) ?_ (h w (by simpa using hB) (Mod.refl _ _))
   unfold execOp
   simp only [ho,resolve,invoke,builtin,Sem.run_bind,Sem.run_pure,Result.andThen_ok,List.map_toArray,List.map_cons,List.map_nil,hx,hy]
   cases adx<;>simp [loadCells,loadCellsFrom,Builtin.copy_,run_underlying ht,run_sizeOf hsz,Builtin.lenOf,Builtin.firstCells,storeCells,goInt]
 · have hl:news.length=m*size:=hsl.1
   have hload:=run_firstCells_some (P:=P) w size m ⟨b,of,none⟩ m c' news hl (fun j u hu=>by rw [add_at];exact hat j u hu)
   have hst:=run_storeCells_at P g 0 e news 0 cur.toArray w hB (by rw [hl];simp only [List.size_toArray];omega) h1
   simp only [Nat.add_zero,Nat.zero_add,List.take_zero,List.nil_append,hl] at hst
   refine wl_val hw (v:=.int .i64 m) (w':=w.setRow g (news++cur.drop (m*size)).toArray) ?_ (h _ (setRow_heap w g _ _ e _ hB) (Mod.setRow w g _ rfl))
   unfold execOp
   simp only [ho,resolve,invoke,builtin,Sem.run_bind,Sem.run_pure,Result.andThen_ok,List.map_toArray,List.map_cons,List.map_nil,hx,hy]
   simp only [Builtin.copy_,List.getElem?_toArray,List.getElem?_cons_zero,List.getElem?_cons_succ,Sem.run_bind,run_underlying ht,Result.andThen_ok,run_sizeOf hsz,Builtin.lenOf,Sem.run_pure,hmin,hload,hst,goInt]
theorem wl_make {t e:TypeId} {x y:Operand} {z:Value} {zs:List Value} {size bytes n:Nat} {k1 k2:IntKind} {i:TypeInfo} (ho:o.op=.makeSlice t x y) (hw:Region.wanted o (yielded ops a.tmps)=true) (hx:a.eval x=.int k1 (n:Int)) (hy:a.eval y=.int k2 (n:Int))
 (ht:P.underlying t=some (.slice e)) (hi:P.info? e=some i) (hz:i.zero=some z) (hzs:z.cells=zs.toArray) (hsize:i.size=size) (hl:zs.length=size) (hby:i.bytes=bytes) (hs0:0<size) (hn:bytes*n<=281474976710656) (h63:n<=9223372036854775807)
 (h: ∀ w' b,w.heap.size<=b->Blk w' b ((List.range n).flatMap fun _=>zs) e->Mod none' w w'->wpList P ops Q rest (a.put o.dst (.slice (some ⟨b,0,none⟩) n n)) w'):wpList P ops Q (o::rest) a w:=by
 subst hsize hby
 have hb:(i.bytes:Int)*(n:Int)<=281474976710656:=by
  have:((i.bytes*n:Nat):Int)<=281474976710656:=by omega
  rwa [Int.natCast_mul] at this
 have hr:=run_make (P:=P) w t e i z ht hi hz k1 k2 n n (by omega) (by omega) hb (by omega)
 simp only [Int.toNat_natCast] at hr
 have hm:madeCells z.cells (n*i.size)=((List.range n).flatMap fun _=>zs).toArray:=by
  rw [hzs]
  unfold madeCells
  apply Array.ext'
  simp only [Array.toList_map,Array.toList_range,List.size_toArray,hl]
  have key: ∀ k,(List.range (k*i.size)).map (fun j=>zs.toArray[j % i.size]!)=(List.range k).flatMap fun _=>zs:=by
   intro k
   induction k with
   |zero=>simp
   |succ k ih=>
    rw [Nat.succ_mul,List.range_add,List.map_append,ih,List.range_succ,List.flatMap_append]
    congr 1
    rw [List.map_map]
    simp only [List.flatMap_cons,List.flatMap_nil,List.append_nil]
    apply List.ext_getElem?
    intro j
    rw [List.getElem?_map]
    by_cases hj:j<i.size
    · rw [List.getElem?_range hj]
      simp only [Option.map_some,Function.comp]
      have:(k*i.size+j) % i.size=j:=by rw [Nat.add_comm,Nat.add_mul_mod_self_right,Nat.mod_eq_of_lt hj]
      rw [this,getElem!_pos zs.toArray j (by simp [hl,hj])]
      rw [List.getElem?_eq_getElem (by omega)]
      simp
    · rw [List.getElem?_eq_none (by simp;omega),List.getElem?_eq_none (by omega)]
      rfl
  exact key n
 rw [hm] at hr
 refine wl_val hw (v:=.slice (some ⟨w.heap.size,0,none⟩) n n) (w':=w.alloc (.cells ((List.range n).flatMap fun _=>zs).toArray e)) ?_ (h _ _ (Nat.le_refl _) (Blk.new w _ e) (Mod.alloc w _))
 simp only [execOp,ho,hx,hy,Sem.run_bind,hr,Result.andThen_ok,Sem.run_pure]
theorem wl_buildSlice {t e:TypeId} {len:Nat} {parts:Array (Nat×Operand)} {cs:List Value} (ho:o.op=.buildSlice t len parts) (hw:Region.wanted o (yielded ops a.tmps)=true)
 (hr: ∀ W:World,(Instr.buildSlice t len (parts.map fun (i,x)=>(i,a.eval x))).run P W=.ok (.slice (some ⟨W.heap.size,0,none⟩) len len) (W.alloc (.cells cs.toArray e)))
 (h: ∀ w' b,w.heap.size<=b->Blk w' b cs e->Mod none' w w'->wpList P ops Q rest (a.put o.dst (.slice (some ⟨b,0,none⟩) len len)) w'):wpList P ops Q (o::rest) a w:=by
 refine wl_val hw (v:=.slice (some ⟨w.heap.size,0,none⟩) len len) (w':=w.alloc (.cells cs.toArray e)) ?_ (h _ _ (Nat.le_refl _) (Blk.new w _ e) (Mod.alloc w _))
 simp only [execOp,ho,Sem.run_bind]
 have:=hr w
 simp only [] at this
 rw [this]
 rfl
structure SliceTy (P:Program) (t e:TypeId) (sz bytes:Nat) (zs:List Value):Prop where
 und:P.underlying t=some (.slice e)
 len:zs.length=sz
 ex: ∃ i z,P.info? e=some i/\i.zero=some z/\z.cells=zs.toArray/\i.size=sz/\i.bytes=bytes
 pos:0<sz
 one: ∀ u∈zs,u.oneCell'=true
theorem SliceTy.mk' {t e:TypeId} {z:Value} {zs:List Value} {sz bytes:Nat} (h1:P.underlying t=some (.slice e)) (h2:(P.info? e).map (fun i=>(i.zero,i.size,i.bytes))=some (some z,sz,bytes)) (h3:z.cells=zs.toArray)
 (h4:(decide (0<sz) && zs.length == sz && zs.all fun u=>u.oneCell')=true):SliceTy P t e sz bytes zs:=by
 cases hi:P.info? e with
 |none=>rw [hi] at h2;cases h2
 |some i=>
  rw [hi] at h2
  simp only [Option.map_some,Option.some.injEq,Prod.mk.injEq] at h2
  simp only [Bool.and_eq_true,decide_eq_true_eq,List.all_eq_true,beq_iff_eq] at h4
  exact ⟨h1,h4.1.2,⟨i,z,hi,h2.1,h3,h2.2.1,h2.2.2⟩,h4.1.1,h4.2⟩
theorem SliceTy.size {t e:TypeId} {zs:List Value} {sz bytes:Nat} (T:SliceTy P t e sz bytes zs):sizeB P e sz=true:=by
 obtain ⟨i,z,hi,_,_,hs,_⟩:=T.ex
 simp [sizeB,hi,hs]
structure El (α:Type) where
 cells:α->List Value
 sz:Nat
 len: ∀ x,(cells x).length=sz
 one: ∀ x,∀ v∈cells x,v.oneCell'=true
theorem El.flat_one {α:Type} (E:El α) (l:List α): ∀ v∈flat E.cells l,v.oneCell'=true:=by
 intro v hv
 obtain ⟨x,_,hx⟩:=List.mem_flatMap.1 hv
 exact E.one x v hx
theorem El.flat_len {α:Type} (E:El α) (l:List α):(flat E.cells l).length=l.length*E.sz:=flat_length E.cells E.sz E.len l
abbrev elInt:El Int:=⟨fun n=>[.int .i64 n],1,fun _=>rfl,fun _ v hv=>by simp at hv;subst hv;rfl⟩
abbrev elBool:El Bool:=⟨fun n=>[.bool n],1,fun _=>rfl,fun _ v hv=>by simp at hv;subst hv;rfl⟩
abbrev elCell:El Cell:=⟨Cell.cells,2,fun _=>rfl,fun x=>ofKinds_one _ _ x.ks⟩
abbrev elPose:El Pose:=⟨Pose.cells,3,fun _=>rfl,fun x=>ofKinds_one _ _ x.ks⟩
abbrev elMove:El Move:=⟨Move.cells,11,fun _=>rfl,fun x=>ofKinds_one _ _ x.ks⟩
def Rd {α:Type} (w:World) (E:El α) (v:Value) (l:List α):Prop:=Sl w v E.sz l.length (flat E.cells l)
def Ow {α:Type} (w:World) (e:TypeId) (E:El α) (v:Value) (l:List α):Prop:=Own w e E.sz v l.length (flat E.cells l)
section typed
variable {α:Type} {E:El α} {w w':World} {v:Value} {l:List α} {e:TypeId} {F:Nat->Prop}
theorem Ow.rd (h:Ow w e E v l):Rd w E v l:=h.sl
theorem Rd.mod (h:Rd w E v l) (m:Mod F w w') (hb: ∀ b,v.ownBlock=some b-> ¬ F b):Rd w' E v l:=Sl.mod h m hb
theorem Ow.mod (h:Ow w e E v l) (m:Mod F w w') (hb: ∀ b,v.ownBlock=some b-> ¬ F b):Ow w' e E v l:=Own.mod h m hb
theorem Rd.vee (h:Rd w E v l): ∃ ad c,v=.slice ad l.length c:=h.len
theorem Ow.vee (h:Ow w e E v l): ∃ ad c,v=.slice ad l.length c:=h.rd.vee
theorem Rd.nil (w:World) (E:El α):Rd w E (.slice none 0 0) []:=Sl.nil w E.sz
theorem Ow.nil (w:World) (e:TypeId) (E:El α):Ow w e E (.slice none 0 0) []:=Own.nil w e E.sz
theorem Ow.lt (h:Ow w e E v l): ∀ b,v.ownBlock=some b->b<w.heap.size:=Own.lt h
theorem Rd.lt (h:Rd w E v l) (hz:0<E.sz) (hl:l≠[]): ∀ b,v.ownBlock=some b->b<w.heap.size:=by
 intro b hb
 obtain ⟨_,ad,c,rfl,_,h3⟩:=h
 rcases h3 with h0|⟨b',o,rfl,hat⟩
 · exact absurd (List.eq_nil_of_length_eq_zero h0) hl
 · simp only [Value.ownBlock,Option.some.injEq] at hb
   subst hb
   refine hat.lt ?_
   intro h0
   have:=E.flat_len l
   rw [h0] at this
   simp only [List.length_nil] at this
   have:0<l.length:=List.length_pos_iff.2 hl
   have:=Nat.mul_pos this hz
   omega
theorem Rd.elem {ad:Option Addr} {n c:Nat} (h:Rd w E (.slice ad n c) l) {i:Nat} {x:α} (hi:l[i]?=some x): ∃ b o,ad=some ⟨b,o,none⟩/\At w b (o+i*E.sz) (E.cells x):=by
 have hlt:i<l.length:=(List.getElem?_eq_some_iff.1 hi).1
 obtain ⟨_,ad',c',h3,_,h4⟩:=h
 rcases h4 with h0|⟨b,o,h0,hat⟩
 · omega
 · injection h3 with h3 _ _
   exact ⟨b,o,h3.trans h0,hat.elem E.len hi⟩
theorem Blk.ow {b n:Nat} {T:TypeId} (h:Blk w b (flat E.cells l) T) (hn:n=l.length) (hm:n<=maxLen):Ow w T E (.slice (some ⟨b,0,none⟩) n n) l:=by
 subst hn
 exact Own.of_blk h (E.flat_len l) hm
theorem Rd.n {ad:Option Addr} {n c:Nat} (h:Rd w E (.slice ad n c) l):n=l.length:=Sl.inj h
end typed
theorem wl_app {α:Type} {E:El α} {s x:Operand} {t e:TypeId} {zs:List Value} {bytes:Nat} {v y:Value} {xs ys:List α} (T:SliceTy P t e E.sz bytes zs) (hown:Ow w e E v xs) (hsl:Rd w E y ys)
 (ho:o.op=.call {callee:=.builtin .append,args:= #[s,x],argTypes:= #[t,t]}) (hw:Region.wanted o (yielded ops a.tmps)=true) (hs:a.eval s=v) (hx:a.eval x=y) (hm:xs.length+ys.length<=maxLen) (hb:(xs.length+ys.length)*bytes<=140737488355328)
 (h: ∀ ad N c w',Ow w' e E (.slice ad N c) (xs++ys)->Mod (fun b=>v.ownBlock=some b) w w'->(∀ b,(Value.slice ad N c).ownBlock=some b->v.ownBlock=some b\/w.heap.size<=b)->
   wpList P ops Q rest (a.put o.dst (.slice ad N c)) w'):wpList P ops Q (o::rest) a w:=by
 obtain ⟨i,z,hi,hz,hzs,hsize,hby⟩:=T.ex
 refine wl_append (size:=E.sz) (bytes:=bytes) ho hw hs hx T.und hi hz hsize hby (by rw [hzs];simp [T.len]) T.pos hown hsl (E.flat_one ys) hm hb fun v' w' h1 h2 h3=>?_
 rw [<-flat_append,<-List.length_append] at h1
 obtain ⟨ad,c,rfl⟩:=h1.sl.len
 exact h ad _ c w' h1 h2 h3
theorem wl_mk {t e:TypeId} {x y:Operand} {zs:List Value} {sz bytes n:Nat} {k1 k2:IntKind} (T:SliceTy P t e sz bytes zs) (ho:o.op=.makeSlice t x y) (hw:Region.wanted o (yielded ops a.tmps)=true) (hx:a.eval x=.int k1 (n:Int)) (hy:a.eval y=.int k2 (n:Int))
 (hn:bytes*n<=281474976710656) (h63:n<=9223372036854775807)
 (h: ∀ w' b,w.heap.size<=b->Blk w' b ((List.range n).flatMap fun _=>zs) e->Mod none' w w'->wpList P ops Q rest (a.put o.dst (.slice (some ⟨b,0,none⟩) n n)) w'):wpList P ops Q (o::rest) a w:=by
 obtain ⟨i,z,hi,hz,hzs,hsize,hby⟩:=T.ex
 exact wl_make ho hw hx hy T.und hi hz hzs hsize T.len hby T.pos hn h63 h
theorem wl_ix {α:Type} {E:El α} {t e:TypeId} {x y:Operand} {n c i:Nat} {ad:Option Addr} {kd:IntKind} {xs:List α} {u:α} (ho:o.op=.indexAddr t x y) (hw:Region.wanted o (yielded ops a.tmps)=true) (hx:a.eval x=.slice ad n c) (hy:a.eval y=.int kd (i:Int))
 (ht:P.underlying t=some (.slice e)) (hsz:sizeB P e E.sz=true) (hs:Rd w E (.slice ad n c) xs) (hu:xs[i]?=some u)
 (h: ∀ b k,At w b k (E.cells u)->(Value.slice ad n c).ownBlock=some b->wpList P ops Q rest (a.put o.dst (.pointer (some ⟨b,k,none⟩))) w):wpList P ops Q (o::rest) a w:=by
 obtain ⟨b,k,rfl,hat⟩:=hs.elem hu
 have hlt:i<xs.length:=(List.getElem?_eq_some_iff.1 hu).1
 refine wl_indexAddr (b:=b) (k:=k) ho hw hx hy ht hsz (Int.natCast_nonneg i) (by rw [hs.n];omega) ?_
 rw [Int.toNat_natCast]
 exact h b _ hat rfl
end
end Go.Sk
