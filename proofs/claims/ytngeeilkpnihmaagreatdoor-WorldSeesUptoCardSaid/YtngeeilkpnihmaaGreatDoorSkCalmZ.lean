/- A region that draws its order, some of whose calls and loads are not ordered against the rest: they answer alike in every world of a class, and make new things at most. -/
import Derived.Test.YtngeeilkpnihmaaGreatDoorSkBZ
import Derived.Test.YtngeeilkpnihmaaGreatDoorSkAZ
import Derived.Test.YtngeeilkpnihmaaGreatDoorSkDZ
set_option linter.all false
namespace Go.Sk
open Go
theorem call_two {P:Program} {f:FuncId} {args:Array Value} {w:World} {R R':Ending->World->Prop} (h1:Calls P f args w R) (hR: ∀ e w',R e w'-> ∃ x,e=.returned x) (h2:Calls P f args w R') (hR': ∀ e w',R' e w'-> ∃ x,e=.returned x): ∃ x u,R (.returned x) u/\R' (.returned x) u:=by
 let c:Frame:={fn:=P.funcs.size,tmps:= #[],todo:=[],defers:=[],mode:=.returning,kind:=.report}
 obtain ⟨e1,u1,f1,hr1,hs1,_,l1⟩:=h1 [c]
 obtain ⟨v,rfl⟩:=hR _ _ hr1
 obtain ⟨n1,s1⟩:=hs1
 obtain ⟨e2,u2,f2,hr2,hs2,_,l2⟩:=h2 [c]
 obtain ⟨v2,rfl⟩:=hR' _ _ hr2
 obtain ⟨n2,s2⟩:=hs2
 have stuck: ∀ (v:Value) (w:World),∃ o w',step P (lone (c.finish v) [] w)=.ended o w':=by
  intro v w
  refine ⟨.stuck "report: Error or String returned no string" "",w,step_lone_ended ?_⟩
  simp [stepG,unwind,c,Frame.finish,doReturn,GStep.bare]
 have key: ∀ (k:Nat) (fr fr':Frame) (u u':World) (x:Value),fr.leaving P u (.returned x)->runN P (k+1) (lone fr [c] u)=.next (lone fr' [c] u')->False:=by
  intro k fr fr' u u' x hl h
  simp only [runN,step_leave_returned hl] at h
  cases k with
  |zero=>
   simp only [runN,Stepped.next.injEq] at h
   have:=congrArg (fun m:Machine=>m.gs.map (·.callers)) h
   simp [lone] at this
  |succ k=>
   obtain ⟨o,w',hs⟩:=stuck x u
   simp only [runN,hs] at h
   cases h
 have done: ∀ (fr fr':Frame) (u u':World) (x x':Value),fr.leaving P u (.returned x)->fr'.leaving P u' (.returned x')->lone fr [c] u=lone fr' [c] u'->x=x'/\u=u':=by
  intro fr fr' u u' x x' h h' he
  have e1:=congrArg (fun m:Machine=>m.gs.map (·.frame)) he
  have e2:=congrArg (fun m:Machine=>m.world) he
  simp [lone] at e1 e2
  subst e1 e2
  obtain ⟨_,_,_,fn,hf,hr⟩:=h
  obtain ⟨_,_,_,fn',hf',hr'⟩:=h'
  rw [hf] at hf'
  injection hf' with hf'
  subst hf'
  rw [hr] at hr'
  injection hr' with hr'
  exact ⟨hr',rfl⟩
 rcases Nat.lt_trichotomy n1 n2 with h|h|h
 · obtain ⟨k,rfl⟩: ∃ k,n2=n1+(k+1):=⟨n2 - n1 - 1,by omega⟩
   rw [runN_add P n1 (k+1) _ _ s1] at s2
   exact (key _ _ _ _ _ _ l1 s2).elim
 · subst h
   rw [s1] at s2
   injection s2 with s2
   obtain ⟨rfl,rfl⟩:=done _ _ _ _ _ _ l1 l2 s2
   exact ⟨_,_,hr1,hr2⟩
 · obtain ⟨k,rfl⟩: ∃ k,n1=n2+(k+1):=⟨n1 - n2 - 1,by omega⟩
   rw [runN_add P n2 (k+1) _ _ s2] at s1
   exact (key _ _ _ _ _ _ l2 s1).elim
def calm (P:Program) (s:Sem Next) (v:Value) (w:World):Prop:=
 s.run P w=.ok (.value v) w\/ ∃ f args,s.run P w=.ok (.enter f args) w/\Calls P f args w (Ret v w)
theorem calm_one {P:Program} {s:Sem Next} {v v':Value} {w:World} (h:calm P s v w) (h':calm P s v' w):v=v':=by
 rcases h with h|⟨f,args,h,hc⟩<;>rcases h' with h'|⟨f',args',h',hc'⟩<;>rw [h] at h'<;>injection h' with h' _
 · injection h'
 · cases h'
 · cases h'
 · injection h' with h1 h2
   subst h1 h2
   obtain ⟨x,u,h3,h4⟩:=call_two hc (fun e w' he=>⟨_,he.1⟩) hc' (fun e w' he=>⟨_,he.1⟩)
   have h3:=h3.1
   have h4:=h4.1
   injection h3 with h3
   injection h4 with h4
   rw [<-h3,<-h4]
theorem calm_wp {P:Program} {o:Oper} {a:Act} {v:Value} {w:World} {K:Act->World->Prop} {Q:Exit->Act->World->Prop} (h:calm P (execOp a.eval o) v w) (hK: ∀ w',Mod none' w w'->K (a.put o.dst v) w'):o.wp P a w K Q:=by
 unfold Oper.wp
 rcases h with h|⟨f,args,h,hc⟩
 · rw [h];exact hK _ (Mod.refl _ _)
 · rw [h]
   exact hc.mono fun e w' ⟨he,hw⟩=>by subst he;exact hK _ hw
section
variable {P:Program} {ops:Array Oper} {C:World->Prop} {L:List Nat}
def Grown (K:Act->World->Prop):Prop:= ∀ a w w',Mod none' w w'->K a w->K a w'
def stepC (P:Program) (C:World->Prop) (loud:Bool) (o:Oper) (K:Act->World->Prop) (a:Act) (w:World):Prop:=
 if loud then o.wp P a w (fun a' w'=>C w'/\K a' w') noExit else ∃ v,(∀ w,C w->calm P (execOp a.eval o) v w)/\K (a.put o.dst v) w
def opB (P:Program) (ops:Array Oper) (C:World->Prop) (L:List Nat) (i:Nat) (K:Act->World->Prop) (a:Act) (w:World):Prop:=
 match ops[i]? with
 |none=>K a w
 |some o=>if Region.wanted o (yielded ops a.tmps) then stepC P C (L.contains i) o K a w else K (a.put o.dst undef) w
def opG (P:Program) (ops:Array Oper) (C:World->Prop) (L:List Nat) (i:Nat) (K:Act->World->Prop) (a:Act) (w:World):Prop:= ∀ w',Mod none' w w'->C w'->opB P ops C L i K a w'
def wpLexG (P:Program) (ops:Array Oper) (C:World->Prop) (L:List Nat) (Q:Act->World->Prop):Nat->List Oper->Act->World->Prop
 |_,[],a,w=>Q a w
 |k,o::rest,a,w=> ∀ w',Mod none' w w'->C w'->
  if Region.wanted o (yielded ops a.tmps) then stepC P C (L.contains k) o (wpLexG P ops C L Q (k+1) rest) a w'
  else wpLexG P ops C L Q (k+1) rest (a.put o.dst undef) w'
theorem opG_grown {i:Nat} {K:Act->World->Prop}:Grown (opG P ops C L i K):=fun _ _ _ hm h w' hm' hC=>h w' (hm.trans hm') hC
theorem stepC_mono {loud:Bool} {o:Oper} {a:Act} {w:World} {K K':Act->World->Prop} (hC:C w) (h: ∀ a w,C w->K a w->K' a w)
 (hh:stepC P C loud o K a w):stepC P C loud o K' a w:=by
 unfold stepC at*
 split at hh
 · rename_i hl;simp only [hl,if_true];exact wp_monoQ (fun a w hk=>⟨hk.1,h a w hk.1 hk.2⟩) hh
 · rename_i hl;simp only [hl];obtain ⟨v,h1,h2⟩:=hh;exact ⟨v,h1,h _ _ hC h2⟩
theorem opB_mono {i:Nat} {a:Act} {w:World} {K K':Act->World->Prop} (hC:C w) (h: ∀ a w,C w->K a w->K' a w)
 (hh:opB P ops C L i K a w):opB P ops C L i K' a w:=by
 unfold opB at*
 split
 · rename_i ho;simp only [ho] at hh;exact h _ _ hC hh
 · rename_i o ho
   simp only [ho] at hh
   split
   · rename_i hw;simp only [hw,if_true] at hh;exact stepC_mono hC h hh
   · rename_i hw;simp only [hw] at hh;exact h _ _ hC hh
theorem opG_mono {i:Nat} {a:Act} {w:World} {K K':Act->World->Prop} (h: ∀ a w,C w->K a w->K' a w)
 (hh:opG P ops C L i K a w):opG P ops C L i K' a w:=fun w' hm hC=>opB_mono hC h (hh w' hm hC)
theorem swapG {i j:Nat} {oi oj:Oper} (hi:ops[i]?=some oi) (hj:ops[j]?=some oj) (hsi: ∀ cs b,oi.op≠.select cs b) (hsj: ∀ cs b,oj.op≠.select cs b)
 (hap:oi.apart ops oj=true) (hq:L.contains i=false\/L.contains j=false) {K:Act->World->Prop} (hKg:Grown K) {a:Act} {w:World} (hC:C w)
 (h:opG P ops C L i (opG P ops C L j K) a w):opG P ops C L j (opG P ops C L i K) a w:=by
 obtain ⟨p1,p2,p3⟩:=Oper.apart_spec hap
 have p2': ∀ d,oj.dst=some d->oi.dst≠some d:=fun d hd he=>p2 d he hd
 have quiet: ∀ {k:Nat} {o:Oper} {K:Act->World->Prop} {a:Act} {w:World},ops[k]?=some o->(L.contains k=false\/Region.wanted o (yielded ops a.tmps)=false)->
  (opB P ops C L k K a w ↔ ∃ v,((Region.wanted o (yielded ops a.tmps)=true/\ ∀ w,C w->calm P (execOp a.eval o) v w)\/(Region.wanted o (yielded ops a.tmps)=false/\v=undef))/\K (a.put o.dst v) w):=by
  intro k o K a w hk hl
  unfold opB
  simp only [hk]
  by_cases hw:Region.wanted o (yielded ops a.tmps)=true
  · have hl':L.contains k=false:=hl.resolve_right (by simp [hw])
    simp only [hw,if_true,stepC,hl',Bool.false_eq_true,if_false,true_and]
    constructor
    · rintro ⟨v,h1,h2⟩;exact ⟨v,.inl h1,h2⟩
    · rintro ⟨v,h1|h1,h2⟩
      · exact ⟨v,h1,h2⟩
      · exact absurd h1.1 (by simp)
  · have hw':Region.wanted o (yielded ops a.tmps)=false:=by simpa using hw
    simp only [hw',Bool.false_eq_true,if_false,false_and,false_or,true_and]
    constructor
    · intro h;exact ⟨_,rfl,h⟩
    · rintro ⟨v,rfl,h⟩;exact h
 have loud: ∀ {k:Nat} {o:Oper} {K:Act->World->Prop} {a:Act} {w:World},ops[k]?=some o->L.contains k=true->Region.wanted o (yielded ops a.tmps)=true->
  (opB P ops C L k K a w ↔ o.wp P a w (fun a' w'=>C w'/\K a' w') noExit):=by
  intro k o K a w hk hl hw
  unfold opB
  simp only [hk,hw,if_true,stepC,hl]
 intro w1 hm1 hC1
 by_cases qi:L.contains i=false\/Region.wanted oi (yielded ops a.tmps)=false
 · obtain ⟨v,hv,h2⟩:=(quiet hi qi).1 (h w1 hm1 hC1)
   by_cases qj:L.contains j=false\/Region.wanted oj (yielded ops a.tmps)=false
   · have qj':L.contains j=false\/Region.wanted oj (yielded ops (a.put oi.dst v).tmps)=false:=by rw [wanted_put oj a oi.dst v p1];exact qj
     obtain ⟨u,hu,h3⟩:=(quiet hj qj').1 (h2 w1 (Mod.refl _ _) hC1)
     rw [wanted_put oj a oi.dst v p1,execOp_put oj hsj a oi.dst v p1] at hu
     refine (quiet hj qj).2 ⟨u,hu,fun w2 hm2 hC2=>(quiet hi (by rw [wanted_put oi a oj.dst u p3];exact qi)).2 ⟨v,?_,?_⟩⟩
     · rw [wanted_put oi a oj.dst u p3,execOp_put oi hsi a oj.dst u p3];exact hv
     · rw [<-Act.put_comm a v u p2];exact hKg _ _ _ hm2 h3
   · have lj:L.contains j=true:=by cases hb:L.contains j<;>simp_all
     have wj:Region.wanted oj (yielded ops a.tmps)=true:=by cases hb:Region.wanted oj (yielded ops a.tmps)<;>simp_all
     have h3:=(loud hj lj (by rw [wanted_put oj a oi.dst v p1];exact wj)).1 (h2 w1 (Mod.refl _ _) hC1)
     have h4:=wp_after (wp_put' (ops:=ops) hsj p1 p2 h3)
     refine (loud hj lj wj).2 (wp_monoQ (fun a' w'=>?_) h4)
     rintro ⟨haf,hC',hK⟩
     obtain ⟨e1,e2⟩:=eval_after (ops:=ops) hsi haf p3
     exact ⟨hC',fun w2 hm2 hC2=>(quiet hi (by rw [e2];exact qi)).2 ⟨v,by rw [e1,e2];exact hv,hKg _ _ _ hm2 hK⟩⟩
 · have li:L.contains i=true:=by cases hb:L.contains i<;>simp_all
   have wi:Region.wanted oi (yielded ops a.tmps)=true:=by cases hb:Region.wanted oi (yielded ops a.tmps)<;>simp_all
   have qj:L.contains j=false\/Region.wanted oj (yielded ops a.tmps)=false:=.inl (hq.resolve_left (by rw [li];decide))
   have run: ∀ w2,Mod none' w w2->C w2-> ∃ u,((Region.wanted oj (yielded ops a.tmps)=true/\ ∀ w,C w->calm P (execOp a.eval oj) u w)\/(Region.wanted oj (yielded ops a.tmps)=false/\u=undef))/\
    oi.wp P a w2 (fun a' w'=>C w'/\K (a'.put oj.dst u) w') noExit:=by
    intro w2 hm2 hC2
    have h1:=wp_after ((loud hi li wi).1 (h w2 hm2 hC2))
    obtain ⟨a1,w1,haf,hC1,hj1⟩:=wp_exists h1
    obtain ⟨e1,e2⟩:=eval_after (ops:=ops) hsj haf p1
    obtain ⟨u,hu,_⟩:=(quiet hj (by rw [e2];exact qj)).1 (hj1 w1 (Mod.refl _ _) hC1)
    rw [e1,e2] at hu
    refine ⟨u,hu,wp_monoQ (fun a' w'=>?_) h1⟩
    rintro ⟨haf',hC',hK⟩
    obtain ⟨e3,e4⟩:=eval_after (ops:=ops) hsj haf' p1
    obtain ⟨u',hu',hK'⟩:=(quiet hj (by rw [e4];exact qj)).1 (hK w' (Mod.refl _ _) hC')
    rw [e3,e4] at hu'
    have:u'=u:=by
     rcases hu with ⟨x1,x2⟩|⟨x1,x2⟩<;>rcases hu' with ⟨y1,y2⟩|⟨y1,y2⟩
     · exact calm_one (y2 w hC) (x2 w hC)
     · rw [x1] at y1;cases y1
     · rw [x1] at y1;cases y1
     · rw [x2,y2]
    subst this
    exact ⟨hC',hK'⟩
   obtain ⟨u,hu,_⟩:=run w1 hm1 hC1
   refine (quiet hj qj).2 ⟨u,hu,fun w2 hm2 hC2=>(loud hi li (by rw [wanted_put oi a oj.dst u p3];exact wi)).2 (wp_put (ops:=ops) hsi p3 p2' ?_)⟩
   obtain ⟨u',hu',hr⟩:=run w2 (hm1.trans hm2) hC2
   have:u'=u:=by
    rcases hu with ⟨x1,x2⟩|⟨x1,x2⟩<;>rcases hu' with ⟨y1,y2⟩|⟨y1,y2⟩
    · exact calm_one (y2 w hC) (x2 w hC)
    · rw [x1] at y1;cases y1
    · rw [x1] at y1;cases y1
    · rw [x2,y2]
   subst this
   exact hr
def anyG (P:Program) (ops:Array Oper) (C:World->Prop) (L:List Nat) (Q:Act->World->Prop):Nat->Array Bool->Act->World->Prop
 |0,listed,a,w=>Region.ready .any ops listed=[]/\Q a w
 |fuel+1,listed,a,w=>
  (Region.ready .any ops listed=[]->Q a w)/\
  ∀ i∈Region.ready .any ops listed,opG P ops C L i (anyG P ops C L Q fuel (listed.setIfInBounds i true)) a w
theorem anyG_grown {Q:Act->World->Prop} (hQ:Grown Q): ∀ (fuel:Nat) (listed:Array Bool),Grown (anyG P ops C L Q fuel listed)
 |0,_,a,w,w',hm,h=>⟨h.1,hQ _ _ _ hm h.2⟩
 |fuel+1,_,a,w,w',hm,h=>⟨fun h0=>hQ _ _ _ hm (h.1 h0),fun i hi=>opG_grown _ _ _ hm (h.2 i hi)⟩
theorem opG_wpOp {i:Nat} {a:Act} {w:World} {K K':Act->World->Prop} {Q:Exit->Act->World->Prop} (hC:C w) (hCm: ∀ w w',C w->Mod none' w w'->C w') (hg:Grown K) (h: ∀ a w,C w->K a w->K' a w)
 (hh:opG P ops C L i K a w):wpOp P ops Q i K' a w:=by
 have hh:=hh w (Mod.refl _ _) hC
 unfold opB at hh
 unfold wpOp
 split
 · rename_i ho;simp only [ho] at hh;exact h _ _ hC hh
 · rename_i o ho
   simp only [ho] at hh
   split
   · rename_i hw
     simp only [hw,if_true] at hh
     left
     unfold stepC at hh
     split at hh
     · exact wp_monoQ (fun a w hk=>h a w hk.1 hk.2) hh
     · obtain ⟨v,h1,h2⟩:=hh
       exact calm_wp (h1 w hC) fun w' hm=>h _ _ (hCm _ _ hC hm) (hg _ _ _ hm h2)
   · rename_i hw;simp only [hw] at hh;exact h _ _ hC hh
theorem wpAny_of_anyG {Q':Act->World->Prop} {Q:Exit->Act->World->Prop} (hCm: ∀ w w',C w->Mod none' w w'->C w') (hg:Grown Q') (hQ: ∀ a w,Q' a w->Q .normal a w): ∀ (fuel:Nat) (listed:Array Bool) (a:Act) (w:World),C w->
 anyG P ops C L Q' fuel listed a w->wpAny P .any ops Q fuel listed a w
 |0,_,_,_,_,h=>⟨h.1,hQ _ _ h.2⟩
 |fuel+1,_,_,_,hC,h=>⟨fun h0=>hQ _ _ (h.1 h0),fun i hi=>opG_wpOp hC hCm (anyG_grown hg fuel _) (fun a' w' hC'=>wpAny_of_anyG hCm hg hQ fuel _ a' w' hC') (h.2 i hi)⟩
def pairOkG (ops:Array Oper) (b:Array Nat) (L:List Nat) (i j:Nat):Bool:=
 i == j||(b.getD j 0).testBit i||(b.getD i 0).testBit j||
   (match ops[i]?,ops[j]? with|some oi,some oj=>oi.apart ops oj && (!L.contains i||!L.contains j)|_,_=>true)
def lexOkG (ops:Array Oper) (L:List Nat):Bool:=
 Region.noSelect ops && okMasks ops (Region.before ops) &&
  (List.range ops.size).all fun i=>(List.range ops.size).all fun j=>decide (j<=i)||pairOkG ops (Region.before ops) L i j
theorem anyG_first {Q:Act->World->Prop} {i:Nat} {oi:Oper} (hi:ops[i]?=some oi) (hsel: ∀ (j:Nat) (o:Oper) cs b,ops[j]?=some o->o.op≠.select cs b)
 {b:Array Nat} (hb:okMasks ops b=true) (hQ:Grown Q) (hp: ∀ j,i<j->j<ops.size->pairOkG ops b L i j=true):
 ∀ (fuel:Nat) (listed:Array Bool) (a:Act) (w:World),C w->Closed ops listed->(∀ j,j<i->listed.getD j true=true)->i∈Region.ready .any ops listed->
   opG P ops C L i (anyG P ops C L Q fuel (listed.setIfInBounds i true)) a w->anyG P ops C L Q (fuel+1) listed a w:=by
 have exist: ∀ {K:Act->World->Prop} {a:Act} {w:World},C w->opG P ops C L i K a w-> ∃ a' w',K a' w':=by
  intro K a w hC h
  have h:=h w (Mod.refl _ _) hC
  unfold opB at h
  simp only [hi] at h
  split at h
  · unfold stepC at h
    split at h
    · obtain ⟨a',w',_,h⟩:=wp_exists h;exact ⟨a',w',h⟩
    · obtain ⟨v,_,h⟩:=h;exact ⟨_,_,h⟩
  · exact ⟨_,_,h⟩
 intro fuel
 induction fuel with
 |zero=>
  intro listed a w hC hcl hel hr H
  refine ⟨fun h=>(by rw [h] at hr;cases hr),fun j hj=>?_⟩
  by_cases hji:j=i
  · subst hji;exact H
  · obtain ⟨a',w',h0,_⟩:=exist hC H
    have:=ready_mono hj hji
    rw [h0] at this
    cases this
 |succ fuel ih=>
  intro listed a w hC hcl hel hr H
  refine ⟨fun h=>(by rw [h] at hr;cases hr),fun j hj=>?_⟩
  by_cases hji:j=i
  · subst hji;exact H
  · obtain ⟨hjun,oj,hoj,hall⟩:=mem_ready.1 hj
    obtain ⟨hiun,oi',hoi',halli⟩:=mem_ready.1 hr
    have hlt:j<ops.size:=(Array.getElem?_eq_some_iff.1 hoj).1
    have contra: ∀ {k:Nat} {o:Oper},ops[k]?=some o->listed.getD k true=false->listed.getD k false=true->False:=by
     intro k o ho h1 h2
     rcases Nat.lt_or_ge k listed.size with h'|h'
     · simp [h'] at h1 h2;rw [h1] at h2;cases h2
     · simp [Array.getElem?_eq_none h'] at h2
    have hij:i<j:=by
     rcases Nat.lt_or_ge j i with h|h
     · have:=hel j h;rw [hjun] at this;cases this
     · omega
    have hpair:=hp j hij hlt
    simp only [pairOkG,Bool.or_eq_true,beq_iff_eq,hi,hoj,Bool.and_eq_true,Bool.not_eq_true'] at hpair
    have hgood:oi.apart ops oj=true/\(L.contains i=false\/L.contains j=false):=by
     rcases hpair with ((h|h)|h)|h
     · exact absurd h.symm hji
     · exact (contra hi hiun (listed_of_mask hb hcl i j j oj (Nat.le_refl _) hoj hall h)).elim
     · rw [hi] at hoi'
       injection hoi' with hoi'
       subst hoi'
       exact (contra hoj hjun (listed_of_mask hb hcl j i i oi (Nat.le_refl _) hi halli h)).elim
     · exact h
    have H':opG P ops C L i (opG P ops C L j (anyG P ops C L Q fuel ((listed.setIfInBounds i true).setIfInBounds j true))) a w:=
     opG_mono (fun a' w' _ hh=>hh.2 j (ready_mono hj hji)) H
    have H2:=swapG hi hoj (fun cs b=>hsel i oi cs b hi) (fun cs b=>hsel j oj cs b hoj) hgood.1 hgood.2 (anyG_grown hQ _ _) hC H'
    refine opG_mono (fun a' w' hC' h3=>ih (listed.setIfInBounds j true) a' w' hC' (closed_set hcl hj) (fun q hq=>by
     by_cases hqj:j=q
     · subst hqj
       rcases Nat.lt_or_ge j listed.size with h'|h'<;>simp [h']
     · rw [getD_set_ne true hqj];exact hel q hq) (ready_mono hr (Ne.symm hji)) ?_) H2
    rw [Array.setIfInBounds_comm _ _ hji]
    exact h3
theorem anyG_lex {Q:Act->World->Prop} (hsel:Region.noSelect ops=true) (hb:okMasks ops (Region.before ops)=true) (hQ:Grown Q)
 (hp: ∀ i,i<ops.size-> ∀ j,i<j->j<ops.size->pairOkG ops (Region.before ops) L i j=true):
 ∀ (l:List Oper) (k:Nat) (listed:Array Bool) (a:Act) (w:World),C w->(∀ j,l[j]?=ops[k+j]?)->Closed ops listed->listed.size=ops.size->
   (∀ j,j<ops.size->(listed.getD j false=true ↔ j<k))->wpLexG P ops C L Q k l a w->anyG P ops C L Q l.length listed a w
 |[],k,listed,a,w,_,hl,_,hsz,hls,h=>by
  refine ⟨?_,h⟩
  have hk:ops.size<=k:=by
   have:=hl 0
   simp at this
   exact this
  cases hr:Region.ready .any ops listed with
  |nil=>rfl
  |cons x xs=>
   have hx:x∈Region.ready .any ops listed:=by rw [hr];simp
   obtain ⟨h0,o,ho,_⟩:=mem_ready.1 hx
   have hlt:x<ops.size:=(Array.getElem?_eq_some_iff.1 ho).1
   have:=(hls x hlt).2 (by omega)
   have hlt':x<listed.size:=by omega
   simp [hlt'] at h0 this
   rw [h0] at this
   cases this
 |o::l,k,listed,a,w,hC,hl,hcl,hsz,hls,h=>by
  have h0:ops[k]?=some o:=by simpa using (hl 0).symm
  have hlt:k<ops.size:=(Array.getElem?_eq_some_iff.1 h0).1
  have hready:k∈Region.ready .any ops listed:=by
   refine mem_ready.2 ⟨?_,o,h0,fun e he hbd=>?_⟩
   · have h1: ¬ listed.getD k false=true:=fun h'=>by have:=(hls k hlt).1 h';omega
     have hlt':k<listed.size:=by omega
     simp [hlt'] at h1 ⊢
     exact h1
   · have hm:=List.all_eq_true.1 hb k (List.mem_range.2 hlt)
     simp only [h0,Bool.and_eq_true,beq_iff_eq,List.all_eq_true,Bool.or_eq_true,Bool.not_eq_true',decide_eq_true_eq] at hm
     have hle:=(hm.2 e (Array.mem_toList_iff.2 he)).resolve_left (by simp [hbd])
     exact (hls e.on (by omega)).2 hle
  refine anyG_first h0 (Region.noSelect_spec hsel) hb hQ (hp k hlt) l.length listed a w hC hcl (fun j hj=>by
   have h1:=(hls j (by omega)).2 hj
   rcases Nat.lt_or_ge j listed.size with h'|h'
   · simp [h'] at h1 ⊢;exact h1
   · simp [h']) hready ?_
  have hst:opG P ops C L k (wpLexG P ops C L Q (k+1) l) a w:=fun w' hm hC'=>by unfold opB;simp only [h0];exact h w' hm hC'
  refine opG_mono (fun a' w' hC' h'=>anyG_lex hsel hb hQ hp l (k+1) _ a' w' hC' (fun j=>by have:=hl (j+1);simpa [Nat.add_assoc,Nat.add_comm 1 j] using this)
   (closed_set hcl hready) (by simpa using hsz) (fun j hj=>?_) h') hst
  by_cases hjk:k=j
  · subst hjk
    have hlt':k<listed.size:=by omega
    simp [hlt']
  · rw [getD_set_ne false hjk,hls j hj];omega
theorem any_region_lexG {Q:Exit->Act->World->Prop} {Q':Act->World->Prop} {a:Act} {w:World} {l:List Oper} (L:List Nat) (C:World->Prop) (hB:lexOkG l.toArray L=true) (hC:C w.drew) (hCm: ∀ w w',C w->Mod none' w w'->C w')
 (hg:Grown Q') (hQ: ∀ a w,Q' a w->Q .normal a w) (h:wpLexG P l.toArray C L Q' 0 l a w.drew):regAny P l Q a w:=by
 simp only [lexOkG,Bool.and_eq_true,List.all_eq_true,List.mem_range,Bool.or_eq_true,decide_eq_true_eq] at hB
 obtain ⟨⟨h1,h2⟩,h3⟩:=hB
 refine wpAny_of_anyG (C:=C) (L:=L) (Q':=Q') hCm hg hQ _ _ _ _ hC ?_
 have:=anyG_lex (P:=P) (C:=C) (Q:=Q') h1 h2 hg (fun i hi j hij hj=>(h3 i hi j hj).resolve_left (by omega)) l 0 (Array.replicate l.toArray.size false) a w.drew hC (by simp) (by
  intro j o _ hl
  simp only [Array.getD_eq_getD_getElem?,Array.getElem?_replicate] at hl
  split at hl<;>simp at hl) (by simp) (by
  intro j hj
  simp only [Array.getD_eq_getD_getElem?,Array.getElem?_replicate]
  split<;>simp) h
 simpa using this
def wpG (P:Program) (ops:Array Oper) (C:World->Prop) (S:List Nat) (Q:Act->World->Prop):Nat->List Oper->Act->World->Prop
 |_,[],a,w=> ∀ w',Mod none' w w'->Q a w'
 |k,o::rest,a,w=> ∀ w',Mod none' w w'->C w'->
  if S.contains k then (if Region.wanted o (yielded ops a.tmps) then ∃ v,(∀ W,C W->calm P (execOp a.eval o) v W)/\wpG P ops C S Q (k+1) rest (a.put o.dst v) w' else wpG P ops C S Q (k+1) rest (a.put o.dst undef) w')
  else wpList P ops (atEnd fun a' w'=>C w'/\wpG P ops C S Q (k+1) rest a' w') [o] a w'
section
variable {S:List Nat} {Q:Act->World->Prop} {k:Nat} {o:Oper} {rest:List Oper} {a:Act} {w:World}
theorem wpG_nil (h: ∀ w',Mod none' w w'->Q a w'):wpG P ops C S Q k [] a w:=h
theorem wpG_of (hS:S.contains k=false) (h: ∀ w',Mod none' w w'->wpList P ops (atEnd fun a' w'=>C w'/\wpG P ops C S Q (k+1) rest a' w') [o] a w'):wpG P ops C S Q k (o::rest) a w:=by
 intro w' hm _
 simp only [hS,Bool.false_eq_true,if_false]
 exact h w' hm
theorem wpG_call {f:FuncId} {args:Array Value} {v:Value} (hS:S.contains k=true) (hw:Region.wanted o (yielded ops a.tmps)=true) (hr: ∀ W,(execOp a.eval o).run P W=.ok (.enter f args) W)
 (hc: ∀ W,C W->Calls P f args W (Ret v W)) (h: ∀ w',Mod none' w w'->wpG P ops C S Q (k+1) rest (a.put o.dst v) w'):wpG P ops C S Q k (o::rest) a w:=by
 intro w' hm _
 simp only [hS,hw,if_true]
 exact ⟨v,fun W hW=>.inr ⟨f,args,hr W,hc W hW⟩,h w' hm⟩
theorem wpG_val {v:Value} (hS:S.contains k=true) (hw:Region.wanted o (yielded ops a.tmps)=true) (hr: ∀ W,C W->(execOp a.eval o).run P W=.ok (.value v) W)
 (h: ∀ w',Mod none' w w'->wpG P ops C S Q (k+1) rest (a.put o.dst v) w'):wpG P ops C S Q k (o::rest) a w:=by
 intro w' hm _
 simp only [hS,hw,if_true]
 exact ⟨v,fun W hW=>.inl (hr W hW),h w' hm⟩
end
theorem wpG_run {S:List Nat} {Q:Act->World->Prop} (hCm: ∀ w w',C w->Mod none' w w'->C w'): ∀ (l:List Oper) (k:Nat) (a:Act) (w:World),C w->wpG P ops C S Q k l a w->
 ∃ a' w',Q a' w'/\ ∀ t,(∀ o∈l,o.dst≠some t)->a'.tmps[t]?=a.tmps[t]?
 |[],_,a,w,_,h=>⟨a,w,h w (Mod.refl _ _),fun _ _=>rfl⟩
 |o::l,k,a,w,hC,h=>by
  have put: ∀ (a:Act) (v:Value) t,o.dst≠some t->(a.put o.dst v).tmps[t]?=a.tmps[t]?:=by
   intro a v t ht
   cases hd:o.dst with
   |none=>rfl
   |some d=>simp [Act.put,Array.getElem?_setIfInBounds_ne (show d≠t from fun e=>ht (by rw [hd,e]))]
  have fin: ∀ (a1:Act) (w1:World),C w1->(∀ t,o.dst≠some t->a1.tmps[t]?=a.tmps[t]?)->wpG P ops C S Q (k+1) l a1 w1-> ∃ a' w',Q a' w'/\ ∀ t,(∀ o'∈o::l,o'.dst≠some t)->a'.tmps[t]?=a.tmps[t]?:=by
   intro a1 w1 hC1 he h1
   obtain ⟨a',w',hq,ht⟩:=wpG_run hCm l (k+1) a1 w1 hC1 h1
   exact ⟨a',w',hq,fun t hn=>by rw [ht t (fun o' ho'=>hn o' (by simp [ho'])),he t (hn o (by simp))]⟩
  have h:=h w (Mod.refl _ _) hC
  split at h
  · split at h
    · obtain ⟨v,_,h⟩:=h
      exact fin _ w hC (fun t ht=>put a v t ht) h
    · exact fin _ w hC (fun t ht=>put a _ t ht) h
  · have h1:=wpList_cons h
    split at h1
    · obtain ⟨a1,w1,⟨ds,u,rfl⟩,hC1,h2⟩:=wp_exists (wp_after h1)
      refine fin _ w1 hC1 ?_ h2
      intro t ht
      exact put {a with defers:=ds} u t ht
    · exact fin _ w h1.1 (fun t ht=>put a _ t ht) h1.2
theorem wpLexG_of_wpG {S:List Nat} {Q:Act->World->Prop} {full:List Oper} (hfullops:ops=full.toArray) (hCm: ∀ w w',C w->Mod none' w w'->C w'): ∀ (l:List Oper) (k:Nat) (a:Act) (w:World),C w->
 (∀ j,l[j]?=ops[k+j]?)->stableB ops l=true->
 wpG P ops C S (fun a w=>shapesOk P ops full a=true/\Q a w) k l a w->wpLexG P ops C (loudS P S full) (fun a w=> ∀ w',Mod none' w w'->Q a w') k l a w
 |[],_,_,_,_,_,_,h=>fun w' hm=>(h w' hm).2
 |o::l,k,a,w0,hC0,hl,hst,h0=>by
  intro w hm0 hC
  have h:=h0 w hm0 hC
  have hk0:ops[k]?=some o:=by simpa using (hl 0).symm
  have hmem: ∀ o'∈o::l,o'∈full:=fun o' ho'=>by
   obtain ⟨j,hj⟩:=List.getElem?_of_mem ho'
   rw [hl j,hfullops] at hj
   simp only [List.getElem?_toArray] at hj
   exact List.mem_of_getElem? hj
  have rest: ∀ a' w',C w'->wpG P ops C S (fun a w=>shapesOk P ops full a=true/\Q a w) (k+1) l a' w'->wpLexG P ops C (loudS P S full) (fun a w=> ∀ w',Mod none' w w'->Q a w') (k+1) l a' w':=fun a' w' hC' h'=>
   wpLexG_of_wpG hfullops hCm l (k+1) a' w' hC' (fun j=>by have:=hl (j+1);simpa [Nat.add_assoc,Nat.add_comm 1 j] using this)
    (by simp only [stableB,Bool.and_eq_true] at hst;exact hst.2) h'
  have hL:(loudS P S full).contains k=true ↔ (quietKind P o=false/\S.contains k=false):=by
   have h0:full[k]?=some o:=by rw [hfullops] at hk0;simpa using hk0
   have hm:=mem_loudOf (P:=P) full 0 k o h0
   rw [Nat.zero_add] at hm
   unfold loudS
   rw [List.contains_iff_mem,List.mem_filter,<-List.contains_iff_mem,hm]
   simp
  by_cases hSk:S.contains k=true
  · have hl':(loudS P S full).contains k=false:=by
     cases hb:(loudS P S full).contains k
     · rfl
     · have:=(hL.1 hb).2;rw [hSk] at this;cases this
    simp only [hSk,if_true] at h
    split
    · rename_i hw
      simp only [hw,if_true] at h
      obtain ⟨v,hv,h⟩:=h
      simp only [stepC,hl',Bool.false_eq_true,if_false]
      exact ⟨v,hv,rest _ _ hC h⟩
    · rename_i hw
      rw [if_neg hw] at h
      exact rest _ _ hC h
  · have hSk':S.contains k=false:=by simpa using hSk
    simp only [hSk',Bool.false_eq_true,if_false] at h
    have h1:=wpList_cons h
    split
    · rename_i hw
      rw [if_pos hw] at h1
      unfold stepC
      split
      · exact wp_monoQ (fun a' w' hh=>⟨hh.1,rest a' w' hh.1 hh.2⟩) h1
      · rename_i hl'
        obtain ⟨af,wf,⟨hsh,_⟩,ht⟩:=wpG_run hCm (o::l) k a w0 hC0 h0
        have hq:quietKind P o=true:=by
         cases hb:quietKind P o
         · exact absurd (hL.2 ⟨hb,hSk'⟩) hl'
         · rfl
        have hshape:quietAt o a.eval=true:=by
         cases hlk:looks o
         · exact quietAt_of_not o _ hlk
         · simp only [stableB,hlk,Bool.not_true,Bool.false_or,Bool.and_eq_true] at hst
           have hall:=List.all_eq_true.1 hst.1
           obtain ⟨e1,e2⟩:=same_ends (ops:=ops) (o:=o) (a:=a) (a':=af) (fun t hm=>ht t fun o' ho' hd'=>by
            have:=hall o' ho'
            rw [hd'] at this
            simp at this
            exact this hm)
           have:=List.all_eq_true.1 hsh o (hmem o (by simp))
           rw [e1,e2,hw,hq,hlk] at this
           simpa using this
        have hh:=h1
        unfold Oper.wp at hh
        cases hr:(execOp a.eval o).run P w with
        |ok n w1=>
         obtain ⟨v,rfl⟩:=value_of o a.eval hq hr
         rw [hr] at hh
         have hv:=valDet_of (P:=P) o a.eval hq hshape w v w1 hr
         have hw1:=hv w
         rw [hr] at hw1
         injection hw1 with _ hw1
         subst hw1
         exact ⟨v,fun w2 _=>.inl (hv w2),rest _ _ hh.1 hh.2⟩
        |halt x w1=>rw [hr] at hh;cases x<;>simp only [Oper.upon,noExit] at hh
    · rename_i hw
      rw [if_neg hw] at h1
      exact rest _ _ h1.1 h1.2
def drawOkG (P:Program) (S:List Nat) (l:List Oper):Bool:=lexOkG l.toArray (loudS P S l) && stableB l.toArray l
end
def Cls (R:List Res) (W:World):Prop:= ∀ r∈R,Has W r
section
variable {P:Program} {w0 w:World} {F:Nat->Prop} {M L:List Res}
theorem Know.clsG {R:List Res} (h:Know w0 w F M L) (hC: ∀ r∈R,r∈M++L):Cls R w:=fun r hr=>h.get (hC r hr)
theorem wp_region_calmK {id:Nat} {Q:Exit->Act->World->Prop} {a:Act} {l:List Oper} (hK:Know w0 w F M L) (S:List Nat) (R:List Res) (hm:P.follows .mixedOrders=true) (hB:drawOkG P S l=true)
 (hC: ∀ r∈R,r∈M++L) (h: ∀ w',Know w0 w' F M L->wpG P l.toArray (Cls R) S (fun a w=>shapesOk P l.toArray l a=true/\Q .normal a w) 0 l a w'):(Code.region id l.toArray true).wp P Q a w:=by
 simp only [drawOkG,Bool.and_eq_true] at hB
 have hCm: ∀ w w',Cls R w->Mod none' w w'->Cls R w':=fun w w' h hm r hr=>(h r hr).mod hm
 have hC0:Cls R w.drew:=fun r hr=>(hK.same (Mod.drew w)).get (hC r hr)
 exact wp_region_any hm (any_region_lexG (C:=Cls R) (Q':=fun a w=> ∀ w',Mod none' w w'->Q .normal a w') _ hB.1 hC0 hCm (fun a w w' hm h w2 hm2=>h w2 (hm.trans hm2)) (fun a w h=>h w (Mod.refl _ _))
  (wpLexG_of_wpG (full:=l) rfl hCm l 0 a w.drew hC0 (by simp) hB.2 (h _ (hK.same (Mod.drew w)))))
variable {ops:Array Oper} {C:World->Prop} {S:List Nat} {Q:Act->World->Prop} {k:Nat} {o:Oper} {rest:List Oper} {a:Act}
theorem wpG_at (k:Nat) (h:wpG P ops C S Q k (o::rest) a w):wpG P ops C S Q k (o::rest) a w:=h
theorem wpG_loadK {t:TypeId} {x:Operand} {b off:Nat} {v:Value} {R:List Res} {cs:List Value} {T:TypeId} (hS:S.contains k=true) (hw:Region.wanted o (yielded ops a.tmps)=true) (hop:o.op=.load t x) (hx:a.eval x=.pointer (some ⟨b,off,none⟩))
 (hs:scalarB P t=true) (hm:MemB b cs T R:=by repeat (first|exact MemB.head|apply MemB.tail)) (hc:cs[off]?=some v:=by rfl)
 (h: ∀ w',Mod none' w w'->wpG P ops (Cls R) S Q (k+1) rest (a.put o.dst v) w'):wpG P ops (Cls R) S Q k (o::rest) a w:=
 wpG_val hS hw (fun W hW=>by simp only [execOp,hop,hx,Sem.run_bind,run_load hs (((hW _ hm.mem).blk.cell off).trans hc),Result.andThen_ok,Sem.run_pure]) h
theorem wpG_loadSK {t:TypeId} {x:Operand} {b n:Nat} {R:List Res} {cs:List Value} {T:TypeId} (hS:S.contains k=true) (hw:Region.wanted o (yielded ops a.tmps)=true) (hop:o.op=.load t x) (hx:a.eval x=.pointer (some ⟨b,0,none⟩))
 (hs:aggB P t n=true) (hm:MemB b cs T R:=by repeat (first|exact MemB.head|apply MemB.tail)) (hn:cs.length=n:=by rfl)
 (h: ∀ w',Mod none' w w'->wpG P ops (Cls R) S Q (k+1) rest (a.put o.dst (.agg cs.toArray)) w'):wpG P ops (Cls R) S Q k (o::rest) a w:=
 wpG_val hS hw (fun W hW=>by
  have hl:=run_loadS (P:=P) (w:=W) (k:=0) hs hn (hW _ hm.mem).blk.at0
  simp only [execOp,hop,hx,Sem.run_bind,hl,Result.andThen_ok,Sem.run_pure]) h
end
attribute [irreducible] wpG
end Go.Sk
