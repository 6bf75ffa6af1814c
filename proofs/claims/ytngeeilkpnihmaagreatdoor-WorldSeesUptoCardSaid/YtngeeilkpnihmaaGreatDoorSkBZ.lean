/- Texts of mine that belong together: SkRow, SkLast, SkNest, SkSep, SkSepW, SkConf, SkMay, SkGrid, SkRob, SkMap, SkRows, SkTake, SkTell. -/
import Derived.Test.YtngeeilkpnihmaaGreatDoorSkAZ
import Derived.ProofKit
import Derived.OpenShut
import Derived.Carry
import Derived.Deep.Slices
import Derived.Maps.OwnSet
set_option linter.all false
namespace Go.Sk
open Go Go.ChangeShapes Go.WideShapes Go.ChangeAt Go.RowKit Go.Deep
section
variable {H:Type} {enc:TypeId×Value->H} {P:Program} {w w':World} {base:Nat} {spare:Nat->Bool} {held:Bool}
def readB (P:Program) (ts:List TypeId):Bool:=ts.all fun t=>P.readableRec t && decide (t<P.types.size)
theorem trodAll_below (hl:laidOutB P=true) (hb:Below w.heap.size w w'): ∀ (ts:List TypeId) (vs:List Value) (ds:List (DataW H)) (ps:List MemPlace),readB P ts=true->
 DataW.TrodAll enc P w 0 (fun _=>true) true ts vs ds ps->(∀ x∈ps,x.block<w.heap.size)->DataW.TrodAll enc P w' 0 (fun b=>decide (b<w.heap.size)) true ts vs ds ps
 |[],vs,ds,ps,_,h,_=>by
  cases vs<;>cases ds<;>simp [DataW.TrodAll] at h ⊢
  exact h
 |t::ts,vs,ds,ps,hr,h,hlt=>by
  obtain ⟨v,vs',d,ds',p,q,rfl,rfl,rfl,h1,h2⟩:=trodAll_cons h
  simp only [readB,List.all_cons,Bool.and_eq_true,decide_eq_true_eq] at hr
  exact trodAll_cons_mk (Below.trod hl hr.1.1 hr.1.2 h1 hb fun x hx=>hlt x (by simp [hx]))
   (trodAll_below hl hb ts vs' ds' q (by simpa [readB] using hr.2) h2 fun x hx=>hlt x (by simp [hx]))
theorem law_post {f:Func} {s:ChangeSpec} {W W':World} {args:Array Value} {ds:List (DataW H)} {before:List MemPlace} {tb:TypeId}
 (hl:laidOutB P=true) (hr:readB P f.params.toList=true) (hvars:s.vars=[]) (hW:DataW.Whole enc P f.params.toList [] false W args.toList ds [] before)
 (hs:(s.fn H ds)={results:=[.lit (.bool true)],args:=ds}) (hrt:f.resultTypes= #[tb]) (hb:P.underlying tb=some .bool) (hm:Mod none' W W'):
 s.post enc P f false true false false W args (.bool true) W':=by
 have hbel:Below W.heap.size W W':=hm.below _ (Nat.le_refl _) fun b h=>h.elim
 have hlt: ∀ x∈before,x.block<W.heap.size:=fun x hx=>hW.lt x hx
 have hW0:=hW
 obtain ⟨p,q,hA,hV,rfl,hz,hn⟩:=hW
 obtain ⟨_,hq⟩:=trodVars_none hV
 rw [hq,List.append_nil] at hlt hW0
 have hs':s.fn H (ds++[])={results:=[.lit (.bool true)],args:=ds}:=by rw [List.append_nil];exact hs
 refine ⟨ds,[],p,[],p,[],by rw [hvars];exact hW0,?_,?_,?_,World.keptBut_mono (fun x hx=>⟨hx,.inr (.inl hx)⟩) (hbel.frame (· ∈p)),fun h=>by cases h⟩
 · rw [hs',hrt]
   exact trodAll_cons_mk (shut_bool hb true) trodAll_mk0
 · rw [hs']
   exact trodAll_below hl hbel _ _ _ _ hr hA hlt
 · rw [hs',hvars]
   simp [DataW.TrodVars]
def okNum (v:Value):Prop:= ∀ k n,v=.int k n->(Lit.int k n).wf=true
theorem trod_fields {d:Nat} (ih: ∀ (t:TypeId) (ks:List (Option IntKind)) (n:Nat) (cs:List Value) (x:DataW H×List MemPlace),kindsOf P d t=some ks->sizeB P t ks.length=true->DataW.trod enc P w base spare held n t cs=some x->ofKinds ks cs=true/\ ∀ v∈cs,okNum v)
 (n:Nat) (cs:List Value): ∀ (fs:List Field) (off:Nat) (ks:List (Option IntKind)),kindsOf.fieldKinds P (kindsOf P d) fs off=some ks->
   (∀ f∈fs,∃ y,DataW.trod enc P w base spare held n f.type ((cs.drop f.offset).take (P.cellsOf f.type))=some y)->cs.length=off+ks.length->ofKinds ks (cs.drop off)=true/\ ∀ v∈cs.drop off,okNum v
 |[],off,ks,hk,_,hlen=>by
  simp only [kindsOf.fieldKinds,Option.some.injEq] at hk
  subst hk
  have:cs.drop off=[]:=List.drop_of_length_le (by simp at hlen;omega)
  rw [this]
  exact ⟨rfl,fun v hv=>by simp at hv⟩
 |f::fs,off,ks,hk,hf,hlen=>by
  unfold kindsOf.fieldKinds at hk
  by_cases hc:f.name="_"\/f.offset≠off
  · rw [if_pos hc] at hk;cases hk
  · rw [if_neg hc] at hk
    have ho:f.offset=off:=Classical.byContradiction fun h=>hc (.inr h)
    cases ha:kindsOf P d f.type with
    |none=>rw [ha] at hk;cases hk
    |some a=>
     rw [ha] at hk
     simp only [] at hk
     by_cases hsz:sizeB P f.type a.length=true
     · rw [if_pos hsz] at hk
       cases hr:kindsOf.fieldKinds P (kindsOf P d) fs (off+a.length) with
       |none=>rw [hr] at hk;cases hk
       |some b=>
        rw [hr] at hk
        simp only [Option.map_some,Option.some.injEq] at hk
        subst hk
        rw [List.length_append] at hlen
        obtain ⟨y,hy⟩:=hf f (by simp)
        have hco:P.cellsOf f.type=a.length:=by
         unfold sizeB at hsz
         unfold Program.cellsOf
         cases hi:P.info? f.type with
         |none=>rw [hi] at hsz;cases hsz
         |some i=>rw [hi] at hsz;simpa using hsz
        rw [ho,hco] at hy
        obtain ⟨k1,k2⟩:=ih f.type a n _ y ha hsz hy
        obtain ⟨r1,r2⟩:=trod_fields ih n cs fs (off+a.length) b hr (fun g hg=>hf g (by simp [hg])) (by omega)
        have hsplit:cs.drop off=(cs.drop off).take a.length++cs.drop (off+a.length):=by rw [<-List.drop_drop,List.take_append_drop]
        rw [hsplit]
        refine ⟨?_,fun v hv=>?_⟩
        · have: ∀ (x y:List (Option IntKind)) (u v:List Value),ofKinds x u=true->ofKinds y v=true->ofKinds (x++y) (u++v)=true:=by
           intro x
           induction x with
           |nil=>intro y u v h1 h2;cases u<;>simp [ofKinds] at h1;simpa using h2
           |cons k x ihx=>
            intro y u v h1 h2
            cases u with
            |nil=>simp [ofKinds] at h1
            |cons c u=>
             simp only [ofKinds,Bool.and_eq_true] at h1
             simp only [List.cons_append,ofKinds,Bool.and_eq_true]
             exact ⟨h1.1,ihx y u v h1.2 h2⟩
          exact this _ _ _ _ k1 r1
        · rcases List.mem_append.1 hv with h|h
          · exact k2 v h
          · exact r2 v h
     · rw [if_neg hsz] at hk;cases hk
theorem trod_plain: ∀ (d:Nat) (t:TypeId) (ks:List (Option IntKind)) (n:Nat) (cs:List Value) (x:DataW H×List MemPlace),kindsOf P d t=some ks->sizeB P t ks.length=true->
 DataW.trod enc P w base spare held n t cs=some x->ofKinds ks cs=true/\ ∀ v∈cs,okNum v
 |0,_,_,_,_,_,hk,_,_=>by simp [kindsOf] at hk
 |d+1,t,ks,n,cs,x,hk,hsz,h=>by
  unfold kindsOf at hk
  cases hu:P.underlying t with
  |none=>rw [hu] at hk;cases hk
  |some dsc=>
   rw [hu] at hk
   cases dsc<;>simp only [] at hk<;>first|(cases hk;done)|skip
   case int k=>
    injection hk with hk
    subst hk
    obtain ⟨m,rfl,_,hwf⟩:=DataW.trod_int hu h
    refine ⟨by simp [ofKinds,ofKind],fun v hv=>?_⟩
    simp at hv
    subst hv
    intro k' n' he
    injection he with h1 h2
    subst h1 h2
    exact hwf
   case bool=>
    injection hk with hk
    subst hk
    obtain ⟨b,rfl,_⟩:=DataW.trod_bool hu h
    refine ⟨by simp [ofKinds,ofKind],fun v hv=>?_⟩
    simp at hv
    subst hv
    intro k' n' he
    cases he
   case struct fs=>
    split at hk
    · cases hk
    · obtain ⟨xs,m,_,_,hl,hlen,hf⟩:=DataW.trod_struct hu h
      have hco:P.cellsOf t=ks.length:=by
       unfold sizeB at hsz
       unfold Program.cellsOf
       cases hi:P.info? t with
       |none=>rw [hi] at hsz;cases hsz
       |some i=>rw [hi] at hsz;simpa using hsz
      have:=trod_fields (fun t ks n cs x=>trod_plain d t ks n cs x) m cs fs.toList 0 ks hk (fun f hfm=>by
       obtain ⟨j,hj⟩:=List.getElem?_of_mem hfm
       have hj':fs[j]?=some f:=by simpa using hj
       have:=hf j f hj'
       have hjl:j<xs.length:=by rw [hlen];exact (Array.getElem?_eq_some_iff.1 hj').1
       exact ⟨xs[j],by rw [this,List.getElem?_eq_getElem hjl]⟩) (by rw [hl,hco,Nat.zero_add])
      simpa using this
structure ElTy {α:Type} (P:Program) (e:TypeId) (E:El α) (ks:List (Option IntKind)):Prop where
 kinds:kindsOf P 9 e=some ks
 size:sizeB P e ks.length=true
 sz:E.sz=ks.length
 pos:0<E.sz
 ofk: ∀ cs,ofKinds ks cs=true-> ∃ x,cs=E.cells x
theorem ofk_int: ∀ cs,ofKinds [some .i64] cs=true-> ∃ x,cs=elInt.cells x:=by
 intro cs h
 obtain ⟨c,rfl⟩:=List.length_eq_one_iff.1 (ofKinds_length _ _ h)
 cases c<;>simp [ofKinds,ofKind] at h
 subst h
 exact ⟨_,rfl⟩
end
end Go.Sk
namespace Go.Sk
open Go
section
variable {P:Program} {ops:Array Oper} {C:World->Prop} {L:List Nat} {z:Nat}
def anyZ (P:Program) (ops:Array Oper) (C:World->Prop) (L:List Nat) (z:Nat) (Q:Act->World->Prop):Nat->Array Bool->Act->World->Prop
 |0,listed,a,w=>Region.ready .any ops listed≠[]/\(z∈Region.ready .any ops listed->Q a w)/\ ∀ i∈Region.ready .any ops listed,i≠z->False
 |fuel+1,listed,a,w=>
  Region.ready .any ops listed≠[]/\(z∈Region.ready .any ops listed->Q a w)/\
  ∀ i∈Region.ready .any ops listed,i≠z->opL P ops C L i (anyZ P ops C L z Q fuel (listed.setIfInBounds i true)) a w
theorem anyZ_ne {Q:Act->World->Prop} {fuel:Nat} {listed:Array Bool} {a:Act} {w:World} (h:anyZ P ops C L z Q fuel listed a w):Region.ready .any ops listed≠[]:=by
 cases fuel<;>exact h.1
theorem anyZ_z {Q:Act->World->Prop} {fuel:Nat} {listed:Array Bool} {a:Act} {w:World} (h:anyZ P ops C L z Q fuel listed a w):z∈Region.ready .any ops listed->Q a w:=by
 cases fuel<;>exact h.2.1
theorem unlisted {listed:Array Bool} {k:Nat} (h1:listed.getD k true=false) (h2:listed.getD k false=true):False:=by
 rcases Nat.lt_or_ge k listed.size with h'|h'
 · simp [h'] at h1 h2;rw [h1] at h2;cases h2
 · simp [Array.getElem?_eq_none h'] at h2
theorem all_listed {listed:Array Bool} (hb:okMasks ops (Region.before ops)=true) (hz: ∀ i,i<z->((Region.before ops).getD z 0).testBit i=true) (hcl:Closed ops listed) (hr:z∈Region.ready .any ops listed) {i:Nat} (hi:i<z):
 listed.getD i false=true:=by
 obtain ⟨_,o,ho,hall⟩:=mem_ready.1 hr
 exact listed_of_mask hb hcl i z z o (Nat.le_refl _) ho hall (hz i hi)
theorem wpOp_mono {Q:Exit->Act->World->Prop} {i:Nat} {K K':Act->World->Prop} {a:Act} {w:World} (h: ∀ a w,K a w->K' a w) (hh:wpOp P ops Q i K a w):wpOp P ops Q i K' a w:=by
 unfold wpOp at*
 split
 · rename_i ho;simp only [ho] at hh;exact h _ _ hh
 · rename_i o ho
   simp only [ho] at hh
   split
   · rename_i hw
     simp only [hw,if_true] at hh
     exact hh.imp (fun h1=>Oper.wp_mono h h1) id
   · rename_i hw;simp only [hw] at hh;exact h _ _ hh
theorem wpAny_of_anyZ {Q:Exit->Act->World->Prop} (hzs:ops.size=z+1) (hb:okMasks ops (Region.before ops)=true) (hz: ∀ i,i<z->((Region.before ops).getD z 0).testBit i=true): ∀ (fuel:Nat) (listed:Array Bool) (a:Act) (w:World),C w->Closed ops listed->listed.size=ops.size->
 anyZ P ops C L z (wpOp P ops Q z (fun a w=>Q .normal a w)) fuel listed a w->wpAny P .any ops Q (fuel+1) listed a w:=by
 intro fuel
 induction fuel with
 |zero=>
  intro listed a w hC hcl hsz h
  refine ⟨fun h0=>(anyZ_ne h h0).elim,fun i hi=>?_⟩
  by_cases hiz:i=z
  · subst hiz
    refine wpOp_mono (fun a' w' hq=>⟨?_,hq⟩) (anyZ_z h hi)
    cases hr:Region.ready .any ops (listed.setIfInBounds i true) with
    |nil=>rfl
    |cons x xs=>
     have hx:x∈Region.ready .any ops (listed.setIfInBounds i true):=by rw [hr];simp
     obtain ⟨h0,o,ho,_⟩:=mem_ready.1 hx
     have hlt:x<ops.size:=(Array.getElem?_eq_some_iff.1 ho).1
     exfalso
     refine unlisted h0 ?_
     by_cases hxi:i=x
     · subst hxi
       have hlt':i<listed.size:=by omega
       simp [hlt']
     · rw [getD_set_ne false hxi]
       exact all_listed hb hz hcl hi (by omega)
  · exact (h.2.2 i hi hiz).elim
 |succ fuel ih=>
  intro listed a w hC hcl hsz h
  refine ⟨fun h0=>(anyZ_ne h h0).elim,fun i hi=>?_⟩
  by_cases hiz:i=z
  · subst hiz
    refine wpOp_mono (fun a' w' hq=>⟨fun _=>hq,fun x hx=>?_⟩) (anyZ_z h hi)
    obtain ⟨h0,o,ho,_⟩:=mem_ready.1 hx
    have hlt:x<ops.size:=(Array.getElem?_eq_some_iff.1 ho).1
    exfalso
    refine unlisted h0 ?_
    by_cases hxi:i=x
    · subst hxi
      have hlt':i<listed.size:=by omega
      simp [hlt']
    · rw [getD_set_ne false hxi]
      exact all_listed hb hz hcl hi (by omega)
  · exact opL_wpOp hC (fun a' w' hC' h'=>ih _ a' w' hC' (closed_set hcl hi) (by simpa using hsz) h') (h.2.2 i hi hiz)
theorem anyZ_first {Q:Act->World->Prop} {i:Nat} {oi:Oper} (hi:ops[i]?=some oi) (hsel: ∀ (j:Nat) (o:Oper) cs b,ops[j]?=some o->o.op≠.select cs b)
 {b:Array Nat} (hb:okMasks ops b=true) (hCa: ∀ w ob,C w->C (w.alloc ob)) (hiz:i<z) (hz: ∀ i,i<z->(b.getD z 0).testBit i=true) (hp: ∀ j,i<j->j<ops.size->pairOk ops b L i j=true):
 ∀ (fuel:Nat) (listed:Array Bool) (a:Act) (w:World),C w->Closed ops listed->(∀ j,j<i->listed.getD j true=true)->i∈Region.ready .any ops listed->
   opL P ops C L i (anyZ P ops C L z Q fuel (listed.setIfInBounds i true)) a w->anyZ P ops C L z Q (fuel+1) listed a w:=by
 have exist: ∀ {K:Act->World->Prop} {a:Act} {w:World},opL P ops C L i K a w-> ∃ a' w',K a' w':=by
  intro K a w h
  unfold opL at h
  simp only [hi] at h
  split at h
  · unfold stepL at h
    split at h
    · obtain ⟨a',w',_,h⟩:=wp_exists h;exact ⟨a',w',h⟩
    · obtain ⟨v,_,h⟩:=h;exact ⟨_,_,h⟩
  · exact ⟨_,_,h⟩
 have notz: ∀ {listed:Array Bool},Closed ops listed->i∈Region.ready .any ops listed->z∈Region.ready .any ops listed->False:=by
  intro listed hcl hr hzr
  obtain ⟨h0,_⟩:=mem_ready.1 hr
  obtain ⟨_,o,ho,hall⟩:=mem_ready.1 hzr
  exact unlisted h0 (listed_of_mask hb hcl i z z o (Nat.le_refl _) ho hall (hz i hiz))
 intro fuel
 induction fuel with
 |zero=>
  intro listed a w hC hcl hel hr H
  refine ⟨fun h=>(by rw [h] at hr;cases hr),fun h=>(notz hcl hr h).elim,fun j hj hjz=>?_⟩
  by_cases hji:j=i
  · subst hji;exact H
  · obtain ⟨a',w',h0⟩:=exist H
    exact (h0.2.2 j (ready_mono hj hji) hjz).elim
 |succ fuel ih=>
  intro listed a w hC hcl hel hr H
  refine ⟨fun h=>(by rw [h] at hr;cases hr),fun h=>(notz hcl hr h).elim,fun j hj hjz=>?_⟩
  by_cases hji:j=i
  · subst hji;exact H
  · obtain ⟨hjun,oj,hoj,hall⟩:=mem_ready.1 hj
    obtain ⟨hiun,oi',hoi',halli⟩:=mem_ready.1 hr
    have hlt:j<ops.size:=(Array.getElem?_eq_some_iff.1 hoj).1
    have contra: ∀ {k:Nat} {o:Oper},ops[k]?=some o->listed.getD k true=false->listed.getD k false=true->False:=by
     intro k o ho h1 h2
     rcases Nat.lt_or_ge k listed.size with h'|h'
     · simp [h'] at h1 h2;rw [h1] at h2;cases h2
     · simp [Array.getElem?_eq_none h'] at h2
    have hij:i<j:=by
     rcases Nat.lt_or_ge j i with h|h
     · have:=hel j h;rw [hjun] at this;cases this
     · omega
    have hpair:=hp j hij hlt
    simp only [pairOk,Bool.or_eq_true,beq_iff_eq,hi,hoj,Bool.and_eq_true,Bool.not_eq_true'] at hpair
    have hgood:oi.apart ops oj=true/\((L.contains i=false\/L.contains j=false)\/(isLoad oi=true/\(isLoad oj=true\/isAlloc oj=true))):=by
     rcases hpair with ((h|h)|h)|h
     · exact absurd h.symm hji
     · exact (contra hi hiun (listed_of_mask hb hcl i j j oj (Nat.le_refl _) hoj hall h)).elim
     · rw [hi] at hoi'
       injection hoi' with hoi'
       subst hoi'
       exact (contra hoj hjun (listed_of_mask hb hcl j i i oi (Nat.le_refl _) hi halli h)).elim
     · exact h
    have H':opL P ops C L i (opL P ops C L j (anyZ P ops C L z Q fuel ((listed.setIfInBounds i true).setIfInBounds j true))) a w:=
     opL_mono hC (fun a' w' _ hh=>hh.2.2 j (ready_mono hj hji) hjz) H
    have H2:=swap hi hoj (fun cs b=>hsel i oi cs b hi) (fun cs b=>hsel j oj cs b hoj) hgood.1 (hgood.2.imp id fun h=>⟨h.1,h.2.imp id fun h=>⟨h,hCa⟩⟩) hC H'
    refine opL_mono hC (fun a' w' hC' h3=>ih (listed.setIfInBounds j true) a' w' hC' (closed_set hcl hj) (fun q hq=>by
     by_cases hqj:j=q
     · subst hqj
       rcases Nat.lt_or_ge j listed.size with h'|h'<;>simp [h']
     · rw [getD_set_ne true hqj];exact hel q hq) (ready_mono hr (Ne.symm hji)) ?_) H2
    rw [Array.setIfInBounds_comm _ _ hji]
    exact h3
theorem anyZ_lex {Q:Act->World->Prop} (hsel:Region.noSelect ops=true) (hb:okMasks ops (Region.before ops)=true) (hCa: ∀ w ob,C w->C (w.alloc ob)) (hzs:ops.size=z+1) (hz: ∀ i,i<z->((Region.before ops).getD z 0).testBit i=true)
 (hp: ∀ i,i<ops.size-> ∀ j,i<j->j<ops.size->pairOk ops (Region.before ops) L i j=true):
 ∀ (l:List Oper) (k:Nat) (listed:Array Bool) (a:Act) (w:World),C w->k+l.length=z->(∀ j x,l[j]?=some x->ops[k+j]?=some x)->Closed ops listed->listed.size=ops.size->
   (∀ j,j<ops.size->(listed.getD j false=true ↔ j<k))->wpLex P ops C L Q k l a w->anyZ P ops C L z Q l.length listed a w
 |[],k,listed,a,w,_,hkz,_,hcl,hsz,hls,h=>by
  simp only [List.length_nil,Nat.add_zero] at hkz
  subst hkz
  have hlt:k<ops.size:=by omega
  have hready:k∈Region.ready .any ops listed:=by
   refine mem_ready.2 ⟨?_,ops[k],by simp [hlt],fun e he hbd=>?_⟩
   · have h1: ¬ listed.getD k false=true:=fun h'=>by have:=(hls k hlt).1 h';omega
     have hlt':k<listed.size:=by omega
     simp [hlt'] at h1 ⊢
     exact h1
   · have hm:=List.all_eq_true.1 hb k (List.mem_range.2 hlt)
     simp only [hlt,getElem?_pos,Bool.and_eq_true,beq_iff_eq,List.all_eq_true,Bool.or_eq_true,Bool.not_eq_true',decide_eq_true_eq] at hm
     have hle:=(hm.2 e (Array.mem_toList_iff.2 he)).resolve_left (by simp [hbd])
     exact (hls e.on (by omega)).2 hle
  refine ⟨fun h0=>(by rw [h0] at hready;cases hready),fun _=>h,fun i hi hik=>?_⟩
  obtain ⟨h0,o,ho,_⟩:=mem_ready.1 hi
  have hlt2:i<ops.size:=(Array.getElem?_eq_some_iff.1 ho).1
  exact unlisted h0 ((hls i hlt2).2 (by omega))
 |o::l,k,listed,a,w,hC,hkz,hl,hcl,hsz,hls,h=>by
  simp only [List.length_cons] at hkz
  have h0:ops[k]?=some o:=by simpa using hl 0 o rfl
  have hlt:k<ops.size:=(Array.getElem?_eq_some_iff.1 h0).1
  have hready:k∈Region.ready .any ops listed:=by
   refine mem_ready.2 ⟨?_,o,h0,fun e he hbd=>?_⟩
   · have h1: ¬ listed.getD k false=true:=fun h'=>by have:=(hls k hlt).1 h';omega
     have hlt':k<listed.size:=by omega
     simp [hlt'] at h1 ⊢
     exact h1
   · have hm:=List.all_eq_true.1 hb k (List.mem_range.2 hlt)
     simp only [h0,Bool.and_eq_true,beq_iff_eq,List.all_eq_true,Bool.or_eq_true,Bool.not_eq_true',decide_eq_true_eq] at hm
     have hle:=(hm.2 e (Array.mem_toList_iff.2 he)).resolve_left (by simp [hbd])
     exact (hls e.on (by omega)).2 hle
  refine anyZ_first h0 (Region.noSelect_spec hsel) hb hCa (by omega) hz (hp k hlt) l.length listed a w hC hcl (fun j hj=>by
   have h1:=(hls j (by omega)).2 hj
   rcases Nat.lt_or_ge j listed.size with h'|h'
   · simp [h'] at h1 ⊢;exact h1
   · simp [h']) hready ?_
  have hst:opL P ops C L k (wpLex P ops C L Q (k+1) l) a w:=by unfold opL;simp only [h0];exact h
  refine opL_mono hC (fun a' w' hC' h'=>anyZ_lex hsel hb hCa hzs hz hp l (k+1) _ a' w' hC' (by omega) (fun j x hx=>by have:=hl (j+1) x (by simpa using hx);simpa [Nat.add_assoc,Nat.add_comm 1 j] using this)
   (closed_set hcl hready) (by simpa using hsz) (fun j hj=>?_) h') hst
  by_cases hjk:k=j
  · subst hjk
    have hlt':k<listed.size:=by omega
    simp [hlt']
  · rw [getD_set_ne false hjk,hls j hj];omega
theorem wpLex_of_wpZ {Q:Act->World->Prop} {S:List Nat} {full:List Oper} (hfullops:ops=full.toArray) (hsel:Region.noSelect ops=true) (hS:stableOk ops S=true): ∀ (l:List Oper) (k:Nat) (a:Act) (w:World),C w->
 (∀ j x,l[j]?=some x->ops[k+j]?=some x)->stableB ops l=true->
 wpC P ops C (fun a w=>shapesOk P ops full a=true/\stays P ops C S a/\Q a w) l a w->
 (∀ o∈l,∀ d,o.dst=some d->d<a.tmps.size)->wpLex P ops C (loudS P S full) Q k l a w
 |[],_,_,_,_,_,_,h,_=>(wpC_end h).2.2
 |o::l,k,a,w,hC,hl,hst,h,hd=>by
  have hk0:ops[k]?=some o:=by simpa using hl 0 o rfl
  have hmem: ∀ o'∈o::l,o'∈full:=fun o' ho'=>by
   obtain ⟨j,hj⟩:=List.getElem?_of_mem ho'
   have hj:=hl j o' hj
   rw [hfullops] at hj
   simp only [List.getElem?_toArray] at hj
   exact List.mem_of_getElem? hj
  have hsz: ∀ (d:Option Tmp) (v:Value),(a.put d v).tmps.size=a.tmps.size:=fun d v=>by cases d<;>simp [Act.put]
  have rest: ∀ a' w',C w'->a'.tmps.size=a.tmps.size->wpC P ops C (fun a w=>shapesOk P ops full a=true/\stays P ops C S a/\Q a w) l a' w'->wpLex P ops C (loudS P S full) Q (k+1) l a' w':=fun a' w' hC' hsz' h'=>
   wpLex_of_wpZ hfullops hsel hS l (k+1) a' w' hC' (fun j x hx=>by have:=hl (j+1) x (by simpa using hx);simpa [Nat.add_assoc,Nat.add_comm 1 j] using this)
    (by simp only [stableB,Bool.and_eq_true] at hst;exact hst.2) h' (fun o' ho' d hd'=>by rw [hsz'];exact hd o' (by simp [ho']) d hd')
  have h1:=wpC_cons h
  have hL:(loudS P S full).contains k=true ↔ (quietKind P o=false/\S.contains k=false):=by
   have h0:full[k]?=some o:=by rw [hfullops] at hk0;simpa using hk0
   have hm:=mem_loudOf (P:=P) full 0 k o h0
   rw [Nat.zero_add] at hm
   unfold loudS
   rw [List.contains_iff_mem,List.mem_filter,<-List.contains_iff_mem,hm]
   simp
  unfold wpLex
  split
  · rename_i hw
    rw [if_pos hw] at h1
    unfold stepL
    split
    · have h2:=wp_after h1
      refine wp_monoQ (fun a' w' hh=>⟨hh.2.1,rest a' w' hh.2.1 ?_ hh.2.2⟩) h2
      obtain ⟨ds,u,rfl⟩:=hh.1
      cases hdd:o.dst<;>simp [Act.put]
    · rename_i hl'
      obtain ⟨af,wf,⟨hsh,hstay,_⟩,ht⟩:=wpC_run (o::l) a w h
      by_cases hSk:S.contains k=true
      ·
       have hok:=List.all_eq_true.1 hS k (List.contains_iff_mem.1 hSk)
       simp only [hk0] at hok
       cases hdst:o.dst with
       |none=>rw [hdst] at hok;cases hok
       |some d=>
        rw [hdst] at hok
        simp only [Bool.and_eq_true,List.all_eq_true,List.mem_range,Bool.or_eq_true,decide_eq_true_eq,Bool.not_eq_true'] at hok
        obtain ⟨hlater,hown⟩:=hok
        have hlook: ∀ t,t∈o.looksAt ops->af.tmps[t]?=a.tmps[t]?:=fun t hm=>ht t fun o' ho' hd'=>by
         rcases List.mem_cons.1 ho' with rfl|ho'
         · rw [hdst] at hd'
           injection hd' with hd'
           subst hd'
           have:=List.contains_iff_mem.2 hm
           rw [hown] at this
           cases this
         · obtain ⟨j,hj⟩:=List.getElem?_of_mem ho'
           have hj':ops[k+(j+1)]?=some o':=hl (j+1) o' (by simpa using hj)
           have hlt:k+(j+1)<ops.size:=(Array.getElem?_eq_some_iff.1 hj').1
           have:=(hlater (k+(j+1)) hlt).resolve_left (by omega)
           rw [hj'] at this
           simp only [hd',Bool.and_eq_true,bne_iff_ne,Bool.not_eq_true'] at this
           have h3:=List.contains_iff_mem.2 hm
           rw [this.2] at h3
           cases h3
        have hso: ∀ cs b,o.op≠.select cs b:=fun cs b=>Region.noSelect_spec hsel k o cs b hk0
        have heval:=same_eval hso hlook
        have hwant:Region.wanted o (yielded ops af.tmps)=true:=by
         rw [(same_ends hlook).2];exact hw
        have hval:=hstay k (List.contains_iff_mem.1 hSk) o hk0 hwant
        rw [heval,hdst] at hval
        simp only [Option.map_some,Option.getD_some] at hval
        unfold same
        refine ⟨af.tmps.getD d undef,hval,?_⟩
        have hh:=gives_back (hval w hC) h1
        exact rest _ _ hC (hsz _ _) hh.2
      · have hSk':S.contains k=false:=by simpa using hSk
        have hq:quietKind P o=true:=by
         cases hb:quietKind P o
         · exact absurd (hL.2 ⟨hb,hSk'⟩) hl'
         · rfl
        have hshape:quietAt o a.eval=true:=by
         cases hlk:looks o
         · exact quietAt_of_not o _ hlk
         · simp only [stableB,hlk,Bool.not_true,Bool.false_or,Bool.and_eq_true] at hst
           have hall:=List.all_eq_true.1 hst.1
           obtain ⟨e1,e2⟩:=same_ends (ops:=ops) (o:=o) (a:=a) (a':=af) (fun t hm=>ht t fun o' ho' hd'=>by
            have:=hall o' ho'
            rw [hd'] at this
            simp at this
            exact this hm)
           have:=List.all_eq_true.1 hsh o (hmem o (by simp))
           rw [e1,e2,hw,hq,hlk] at this
           simpa using this
        unfold same
        have hh:=h1
        unfold Oper.wp at hh
        cases hr:(execOp a.eval o).run P w with
        |ok n w1=>
         obtain ⟨v,rfl⟩:=value_of o a.eval hq hr
         rw [hr] at hh
         have hv:=valDet_of (P:=P) o a.eval hq hshape w v w1 hr
         have hw1:=hv w
         rw [hr] at hw1
         injection hw1 with _ hw1
         subst hw1
         exact ⟨v,fun w2 _=>.inl (hv w2),rest _ _ hh.1 (hsz _ _) hh.2⟩
        |halt x w1=>rw [hr] at hh;cases x<;>simp only [Oper.upon,noExit] at hh
  · rename_i hw
    rw [if_neg hw] at h1
    exact rest _ _ hC (hsz _ _) h1.2
def drawOkZ (P:Program) (S:List Nat) (l:List Oper):Bool:=
 lexOk l.toArray (loudS P S l) && stableB l.toArray l.dropLast && stableOk l.toArray S && decide (0<l.length) && ((List.range (l.length - 1)).all fun i=>((Region.before l.toArray).getD (l.length - 1) 0).testBit i)
theorem any_region_last {Q:Exit->Act->World->Prop} {a:Act} {w:World} {l:List Oper} (S:List Nat) (C:World->Prop) (hB:drawOkZ P S l=true)
 (hC:C w.drew) (hCa: ∀ w ob,C w->C (w.alloc ob)) (hd:(l.all fun o=>match o.dst with|some d=>decide (d<a.tmps.size)|none=>true)=true)
 (h:wpC P l.toArray C (fun a w=>shapesOk P l.toArray l a=true/\stays P l.toArray C S a/\wpList P l.toArray Q (l.drop (l.length - 1)) a w) l.dropLast a w.drew):regAny P l Q a w:=by
 simp only [drawOkZ,Bool.and_eq_true,decide_eq_true_eq] at hB
 obtain ⟨⟨⟨⟨hB1,hB2⟩,hB3⟩,hB4⟩,hB5⟩:=hB
 simp only [lexOk,Bool.and_eq_true,List.all_eq_true,List.mem_range,Bool.or_eq_true,decide_eq_true_eq] at hB1
 obtain ⟨⟨h1,h2⟩,h3⟩:=hB1
 have hzs:l.toArray.size=(l.length - 1)+1:=by simp;omega
 have hz: ∀ i,i<l.length - 1->((Region.before l.toArray).getD (l.length - 1) 0).testBit i=true:=fun i hi=>List.all_eq_true.1 hB5 i (List.mem_range.2 hi)
 have hpre: ∀ j x,l.dropLast[j]?=some x->l.toArray[0+j]?=some x:=fun j x hx=>by
  rw [Nat.zero_add,List.getElem?_toArray]
  rw [List.getElem?_dropLast] at hx
  split at hx
  · exact hx
  · cases hx
 obtain ⟨o,ho⟩: ∃ o,l[l.length - 1]?=some o:=⟨_,List.getElem?_eq_getElem (by omega)⟩
 have hdrop:l.drop (l.length - 1)=[o]:=by
  rw [List.drop_eq_getElem_cons (by omega),List.drop_of_length_le (by omega)]
  rw [List.getElem?_eq_getElem (by omega)] at ho
  injection ho with ho
  rw [ho]
 have hQ:(fun a w=>wpList P l.toArray Q (l.drop (l.length - 1)) a w)=wpOp P l.toArray Q (l.length - 1) (fun a w=>Q .normal a w):=by
  funext a w
  rw [hdrop]
  unfold wpOp
  simp only [List.getElem?_toArray,ho]
  rfl
 have hQ': ∀ a w,wpList P l.toArray Q (l.drop (l.length - 1)) a w=wpOp P l.toArray Q (l.length - 1) (fun a w=>Q .normal a w) a w:=fun a w=>congrFun (congrFun hQ a) w
 simp only [hQ'] at h
 have hlex:=wpLex_of_wpZ (full:=l) rfl h1 hB3 l.dropLast 0 a w.drew hC hpre hB2 h (fun o ho d hod=>by
  have:=List.all_eq_true.1 hd o (List.dropLast_subset l ho)
  rw [hod] at this
  simpa using this)
 show wpAny P .any l.toArray Q l.toArray.size (Array.replicate l.toArray.size false) a w.drew
 have hany:=anyZ_lex (P:=P) (C:=C) (z:=l.length - 1) h1 h2 hCa hzs hz (fun i hi j hij hj=>(h3 i hi j hj).resolve_left (by omega)) l.dropLast 0 (Array.replicate l.toArray.size false) a w.drew hC (by simp) hpre (by
  intro j o _ hl
  simp only [Array.getD_eq_getD_getElem?,Array.getElem?_replicate] at hl
  split at hl<;>simp at hl) (by simp) (by
  intro j hj
  simp only [Array.getD_eq_getD_getElem?,Array.getElem?_replicate]
  split<;>simp) hlex
 have e:l.toArray.size=l.dropLast.length+1:=by simp;omega
 rw [e] at hany ⊢
 refine wpAny_of_anyZ (C:=C) (L:=loudS P S l) (z:=l.length - 1) hzs h2 hz _ _ a _ hC ?_ ?_ ?_
 · intro j o _ hl
   simp only [Array.getD_eq_getD_getElem?,Array.getElem?_replicate] at hl
   split at hl<;>simp at hl
 · simp;omega
 · exact hany
theorem wp_region_last {id:Nat} {Q:Exit->Act->World->Prop} {a:Act} {w:World} {l:List Oper} (S:List Nat) (C:World->Prop) (hm:P.follows .mixedOrders=true) (hB:drawOkZ P S l=true)
 (hC:C w.drew) (hCa: ∀ w ob,C w->C (w.alloc ob)) (hd:(l.all fun o=>match o.dst with|some d=>decide (d<a.tmps.size)|none=>true)=true)
 (h:wpC P l.toArray C (fun a w=>shapesOk P l.toArray l a=true/\stays P l.toArray C S a/\wpList P l.toArray Q (l.drop (l.length - 1)) a w) l.dropLast a w.drew):(Code.region id l.toArray true).wp P Q a w:=
 wp_region_any hm (any_region_last S C hB hC hCa hd h)
end
end Go.Sk
namespace Go.Sk
open Go Go.ChangeShapes Go.WideShapes Go.ChangeAt Go.RowKit Go.Deep
section
variable {P:Program} {ops:Array Oper} {C:World->Prop}
theorem cell_alloc {w:World} {ob:Obj} {b k:Nat} {v:Value} (h:w.cell? ⟨b,k,none⟩=some v):(w.alloc ob).cell? ⟨b,k,none⟩=some v:=by
 have h2:At w b k [v]:=fun j u hu=>by
  cases j with
  |zero=>simp only [List.getElem?_cons_zero,Option.some.injEq] at hu;subst hu;exact h
  |succ j=>simp at hu
 exact (h2.mod (Mod.alloc (F:=none') w ob) (fun h=>h)).cell (j:=0) rfl
theorem stays_nil {a:Act}:stays P ops C [] a:=fun k hk=>by simp at hk
theorem stays_load {k:Nat} {S:List Nat} {a:Act} {o:Oper} {t:TypeId} {x:Operand} {b off d:Nat} {v:Value} (ho:ops[k]?=some o) (hop:o.op=.load t x) (hd:o.dst=some d) (hx:a.eval x=.pointer (some ⟨b,off,none⟩))
 (hs:scalarB P t=true) (hv:a.tmps.getD d undef=v) (hc: ∀ W,C W->W.cell? ⟨b,off,none⟩=some v) (rest:stays P ops C S a):stays P ops C (k::S) a:=by
 intro k' hk o' ho' hw W hW
 rcases List.mem_cons.1 hk with rfl|hk
 · rw [ho] at ho'
   injection ho' with ho'
   subst ho'
   refine .inl ?_
   simp only [execOp,hop,hx,Sem.run_bind,run_load hs (hc W hW),Result.andThen_ok,Sem.run_pure,hd,Option.map_some,Option.getD_some,hv]
 · exact rest k' hk o' ho' hw W hW
end
section
variable {H:Type} {enc:TypeId×Value->H} {P:Program} {w w':World} {base:Nat} {spare:Nat->Bool} {held:Bool}
end
end Go.Sk
namespace Go.Sk
open Go
structure Res where
 p:World->(Nat->Prop)->Prop
 loc: ∀ {w w':World} {S:Nat->Prop},p w S->(∀ b,S b->w'.heap[b]?=w.heap[b]?)->p w' S
 lt: ∀ {w:World} {S:Nat->Prop},p w S-> ∀ b,S b->b<w.heap.size
def Has (w:World) (r:Res):Prop:= ∃ S,r.p w S
theorem Res.mod {r:Res} {w w':World} {S F:Nat->Prop} (h:r.p w S) (m:Mod F w w') (hF: ∀ b,S b-> ¬ F b):r.p w' S:=
 r.loc h fun b hb=>m.block b (r.lt h b hb) (hF b hb)
theorem Has.mod {r:Res} {w w':World} (h:Has w r) (m:Mod none' w w'):Has w' r:=by
 obtain ⟨S,h⟩:=h
 exact ⟨S,r.mod h m fun _ _ h=>h⟩
def Sep (w:World):List Res->(Nat->Prop)->Prop
 |[],U=> ∀ b,¬ U b
 |r::M,U=> ∃ S V,r.p w S/\Sep w M V/\(∀ b,S b-> ¬ V b)/\ ∀ b,U b ↔ S b\/V b
theorem Sep.lt {w:World}: ∀ {M:List Res} {U:Nat->Prop},Sep w M U-> ∀ b,U b->b<w.heap.size
 |[],_,h,b,hb=>(h b hb).elim
 |r::_,_,⟨_,_,h1,h2,_,h4⟩,b,hb=>((h4 b).1 hb).elim (r.lt h1 b) (Sep.lt h2 b)
theorem Sep.loc {w w':World}: ∀ {M:List Res} {U:Nat->Prop},Sep w M U->(∀ b,U b->w'.heap[b]?=w.heap[b]?)->Sep w' M U
 |[],_,h,_=>h
 |r::_,_,⟨S,V,h1,h2,h3,h4⟩,h=>⟨S,V,r.loc h1 fun b hb=>h b ((h4 b).2 (.inl hb)),Sep.loc h2 fun b hb=>h b ((h4 b).2 (.inr hb)),h3,h4⟩
theorem Sep.mod {w w':World} {M:List Res} {U F:Nat->Prop} (h:Sep w M U) (m:Mod F w w') (hF: ∀ b,U b-> ¬ F b):Sep w' M U:=
 h.loc fun b hb=>m.block b (h.lt b hb) (hF b hb)
theorem Sep.append {w:World}: ∀ {A B:List Res} {U:Nat->Prop},Sep w (A++B) U ↔ ∃ S V,Sep w A S/\Sep w B V/\(∀ b,S b-> ¬ V b)/\ ∀ b,U b ↔ S b\/V b
 |[],B,U=>by
  constructor
  · intro h;exact ⟨fun _=>False,U,fun _ h=>h,h,fun _ h=>h.elim,fun b=>by simp⟩
  · rintro ⟨S,V,h1,h2,_,h4⟩
    have:U=V:=funext fun b=>propext ((h4 b).trans ⟨fun h=>h.resolve_left (h1 b),.inr⟩)
    rw [this];exact h2
 |r::A,B,U=>by
  constructor
  · rintro ⟨S,V,h1,h2,h3,h4⟩
    obtain ⟨S',V',k1,k2,k3,k4⟩:=Sep.append.1 h2
    refine ⟨fun b=>S b\/S' b,V',⟨S,S',h1,k1,fun b hb hb'=>h3 b hb ((k4 b).2 (.inl hb')),fun b=>Iff.rfl⟩,k2,?_,?_⟩
    · rintro b (hb|hb) hv
      · exact h3 b hb ((k4 b).2 (.inr hv))
      · exact k3 b hb hv
    · intro b;rw [h4,k4,or_assoc]
  · rintro ⟨S,V,⟨S1,V1,h1,h2,h3,h4⟩,k2,k3,k4⟩
    refine ⟨S1,fun b=>V1 b\/V b,h1,Sep.append.2 ⟨V1,V,h2,k2,fun b hb hv=>k3 b ((h4 b).2 (.inr hb)) hv,fun b=>Iff.rfl⟩,?_,?_⟩
    · rintro b hb (hv|hv)
      · exact h3 b hb hv
      · exact k3 b ((h4 b).2 (.inl hb)) hv
    · intro b;rw [k4,h4,or_assoc]
inductive Upd:List Res->Res->List Res->List Res->Prop
 |head {r:Res} {R M:List Res}:Upd (r::M) r R (R++M)
 |tail {x r:Res} {R M M':List Res}:Upd M r R M'->Upd (x::M) r R (x::M')
structure Know (w0 w:World) (F:Nat->Prop) (M L:List Res):Prop where
 mod:Mod F w0 w
 ex: ∃ U,Sep w M U/\(∀ b,U b->F b\/w0.heap.size<=b)/\ ∀ r∈L,∃ T,r.p w T/\ ∀ b,T b-> ¬ U b
def Turn (r:Res) (w w':World) (S:Nat->Prop):Prop:=Mod S w w'/\ ∃ S',r.p w' S'/\ ∀ b,S' b->S b\/w.heap.size<=b
def Turns (R:List Res) (w w':World) (S:Nat->Prop):Prop:=Mod S w w'/\ ∃ S',Sep w' R S'/\ ∀ b,S' b->S b\/w.heap.size<=b
theorem Turn.s {r:Res} {w w':World} {S:Nat->Prop} (h:Turn r w w' S):Turns [r] w w' S:=by
 obtain ⟨h1,S',h2,h3⟩:=h
 exact ⟨h1,S',⟨S',fun _=>False,h2,fun _ h=>h,fun _ _ h=>h,fun b=>by simp⟩,h3⟩
def Ret (v:Value) (w:World) (e:Ending) (w':World):Prop:=e=.returned v/\Mod none' w w'
theorem Sep.hole {w:World} {r:Res} {B:List Res}: ∀ {A:List Res} {U:Nat->Prop},Sep w (A++r::B) U->
 ∃ S,r.p w S/\(∀ b,S b->U b)/\ ∀ w' R,Turns R w w' S-> ∃ U',Sep w' (A++(R++B)) U'/\ ∀ b,U' b->U b\/w.heap.size<=b
 |[],U,⟨S,V,h1,h2,h3,h4⟩=>by
  refine ⟨S,h1,fun b hb=>(h4 b).2 (.inl hb),?_⟩
  rintro w' R ⟨m,S',k1,k2⟩
  refine ⟨fun b=>S' b\/V b,(Sep.append (A:=R) (B:=B)).2 ⟨S',V,k1,Sep.mod h2 m fun b hb hs=>h3 b hs hb,?_,fun b=>Iff.rfl⟩,?_⟩
  · intro b hb hv
    rcases k2 b hb with h|h
    · exact h3 b h hv
    · have:=Sep.lt h2 b hv;omega
  · rintro b (hb|hb)
    · exact (k2 b hb).imp (fun h=>(h4 b).2 (.inl h)) id
    · exact .inl ((h4 b).2 (.inr hb))
 |x::A,U,⟨S,V,h1,h2,h3,h4⟩=>by
  obtain ⟨T,k1,k2,k3⟩:=Sep.hole (A:=A) h2
  refine ⟨T,k1,fun b hb=>(h4 b).2 (.inr (k2 b hb)),?_⟩
  intro w' R ht
  obtain ⟨U',j1,j2⟩:=k3 w' R ht
  refine ⟨fun b=>S b\/U' b,⟨S,U',x.mod h1 ht.1 fun b hb ht=>h3 b hb (k2 b ht),j1,?_,fun b=>Iff.rfl⟩,?_⟩
  · intro b hb hv
    rcases j2 b hv with h|h
    · exact h3 b hb h
    · have:=x.lt h1 b hb;omega
  · rintro b (hb|hb)
    · exact .inl ((h4 b).2 (.inl hb))
    · exact (j2 b hb).imp (fun h=>(h4 b).2 (.inr h)) id
theorem Upd.hole {M M':List Res} {r:Res} {R:List Res} (h:Upd M r R M'): ∃ A B,M=A++r::B/\M'=A++(R++B):=by
 induction h with
 |head=>exact ⟨[],_,rfl,rfl⟩
 |tail _ ih=>
  obtain ⟨A,B,rfl,rfl⟩:=ih
  exact ⟨_::A,B,rfl,rfl⟩
namespace Know
variable {w0 w w':World} {F:Nat->Prop} {M M' L:List Res} {r:Res} {R:List Res}
theorem same (h:Know w0 w F M L) (m:Mod none' w w'):Know w0 w' F M L:=by
 obtain ⟨hm,U,h1,h2,h3⟩:=h
 refine ⟨hm.drop m fun b hb=>hb.elim,U,h1.mod m fun _ _ h=>h,h2,fun r hr=>?_⟩
 obtain ⟨T,k1,k2⟩:=h3 r hr
 exact ⟨T,r.mod k1 m fun _ _ h=>h,k2⟩
theorem stepH {A B:List Res} (h:Know w0 w F (A++r::B) L):
 ∃ S,r.p w S/\ ∀ w' R,Turns R w w' S->Know w0 w' F (A++(R++B)) L:=by
 obtain ⟨hm,U,h1,h2,h3⟩:=h
 obtain ⟨S,k1,k2,k3⟩:=h1.hole
 refine ⟨S,k1,fun w' R ht=>?_⟩
 obtain ⟨U',j1,j2⟩:=k3 w' R ht
 refine ⟨hm.drop ht.1 fun b hb=>h2 b (k2 b hb),U',j1,fun b hb=>?_,fun r hr=>?_⟩
 · rcases j2 b hb with h|h
   · exact h2 b h
   · right;have:=hm.size;omega
 · obtain ⟨T,i1,i2⟩:=h3 r hr
   refine ⟨T,r.mod i1 ht.1 fun b hb hs=>i2 b hb (k2 b hs),fun b hb hu=>?_⟩
   rcases j2 b hu with h|h
   · exact i2 b hb h
   · have:=r.lt i1 b hb;omega
theorem step (h:Know w0 w F M L) (hu:Upd M r R M'):
 ∃ S,r.p w S/\ ∀ w',Turns R w w' S->Know w0 w' F M' L:=by
 obtain ⟨A,B,rfl,rfl⟩:=hu.hole
 obtain ⟨S,h1,h2⟩:=h.stepH
 exact ⟨S,h1,fun w'=>h2 w' R⟩
theorem push (h:Know w0 w F M L) (ht:Turns R w w' none'):Know w0 w' F (R++M) L:=by
 obtain ⟨m,S',k1,k2⟩:=ht
 obtain ⟨hm,U,h1,h2,h3⟩:=h
 refine ⟨hm.drop m fun b hb=>hb.elim,fun b=>S' b\/U b,Sep.append.2 ⟨S',U,k1,h1.mod m fun _ _ h=>h,?_,fun b=>Iff.rfl⟩,?_,fun r hr=>?_⟩
 · intro b hb hv
   have:=(k2 b hb).resolve_left (fun h=>h)
   have:=h1.lt b hv
   omega
 · rintro b (hb|hb)
   · right;have:=(k2 b hb).resolve_left (fun h=>h);have:=hm.size;omega
   · exact h2 b hb
 · obtain ⟨T,i1,i2⟩:=h3 r hr
   refine ⟨T,r.mod i1 m fun _ _ h=>h,?_⟩
   rintro b hb (hs|hu)
   · have:=(k2 b hs).resolve_left (fun h=>h)
     have:=r.lt i1 b hb;omega
   · exact i2 b hb hu
theorem push1 (h:Know w0 w F M L) (ht:Turn r w w' none'):Know w0 w' F (r::M) L:=h.push ht.s
theorem has (h:Know w0 w F M L) (hr:r∈L):Has w r:=by
 obtain ⟨_,U,_,_,h3⟩:=h
 obtain ⟨T,k,_⟩:=h3 r hr
 exact ⟨T,k⟩
theorem _root_.Go.Sk.Sep.has {w:World} {r:Res}: ∀ {M:List Res} {U:Nat->Prop},Sep w M U->r∈M->Has w r
 |[],_,_,h=>by cases h
 |x::M,_,⟨S,V,h1,h2,_,_⟩,h=>by
  rcases List.mem_cons.1 h with rfl|h
  · exact ⟨S,h1⟩
  · exact Sep.has h2 h
theorem get (h:Know w0 w F M L) (hr:r∈M++L):Has w r:=by
 rcases List.mem_append.1 hr with hr|hr
 · obtain ⟨_,U,h1,_,_⟩:=h;exact h1.has hr
 · exact h.has hr
theorem _root_.Go.Sk.Sep.sub {w:World}: ∀ {M M':List Res} {U:Nat->Prop},Sep w M U->List.Sublist M' M-> ∃ U',Sep w M' U'/\ ∀ b,U' b->U b
 |_,_,U,h,.slnil=>⟨U,h,fun _ h=>h⟩
 |_::_,_,U,⟨S,V,h1,h2,h3,h4⟩,.cons _ hs=>by
  obtain ⟨U',k1,k2⟩:=h2.sub hs
  exact ⟨U',k1,fun b hb=>(h4 b).2 (.inr (k2 b hb))⟩
 |_::_,_::_,U,⟨S,V,h1,h2,h3,h4⟩,.cons_cons _ hs=>by
  obtain ⟨U',k1,k2⟩:=h2.sub hs
  exact ⟨fun b=>S b\/U' b,⟨S,U',h1,k1,fun b hb hu=>h3 b hb (k2 b hu),fun b=>Iff.rfl⟩,fun b hb=>(h4 b).2 (hb.imp id (k2 b))⟩
theorem sub (h:Know w0 w F M L) (hs:List.Sublist M' M):Know w0 w F M' L:=by
 obtain ⟨hm,U,h1,h2,h3⟩:=h
 obtain ⟨U',k1,k2⟩:=h1.sub hs
 refine ⟨hm,U',k1,fun b hb=>h2 b (k2 b hb),fun r hr=>?_⟩
 obtain ⟨T,i1,i2⟩:=h3 r hr
 exact ⟨T,i1,fun b hb hu=>i2 b hb (k2 b hu)⟩
theorem subL {L':List Res} (h:Know w0 w F M L) (hs: ∀ r∈L',r∈L):Know w0 w F M L':=by
 obtain ⟨hm,U,h1,h2,h3⟩:=h
 exact ⟨hm,U,h1,h2,fun r hr=>h3 r (hs r hr)⟩
theorem split (h:Know w0 w F M L) (hu:Upd M r R M') (ho: ∀ w S,r.p w S->Sep w R S):Know w0 w F M' L:=by
 obtain ⟨S,h1,h2⟩:=h.step hu
 exact h2 w ⟨Mod.refl _ _,S,ho w S h1,fun b hb=>.inl hb⟩
theorem join (h:Know w0 w F (R++M) L) (hc: ∀ w S,Sep w R S->r.p w S):Know w0 w F (r::M) L:=by
 obtain ⟨hm,U,h1,h2,h3⟩:=h
 obtain ⟨S,V,k1,k2,k3,k4⟩:=Sep.append.1 h1
 exact ⟨hm,U,⟨S,V,hc w S k1,k2,k3,k4⟩,h2,h3⟩
theorem _root_.Go.Sk.Sep.perm {w:World} {A B:List Res} {U:Nat->Prop} (h:Sep w (A++B) U):Sep w (B++A) U:=by
 obtain ⟨S,V,h1,h2,h3,h4⟩:=Sep.append.1 h
 exact Sep.append.2 ⟨V,S,h2,h1,fun b hv hs=>h3 b hs hv,fun b=>(h4 b).trans or_comm⟩
theorem swap {A B:List Res} (h:Know w0 w F (A++B) L):Know w0 w F (B++A) L:=by
 obtain ⟨hm,U,h1,h2,h3⟩:=h
 exact ⟨hm,U,h1.perm,h2,h3⟩
theorem start {L:List Res} (w:World) (h: ∀ r∈L,Has w r):Know w w none' [] L:=
 ⟨Mod.refl _ _,fun _=>False,fun _ h=>h,fun _ h=>h.elim,fun r hr=>by
   obtain ⟨T,k⟩:=h r hr
   exact ⟨T,k,fun _ _ h=>h⟩⟩
theorem start1 {w:World} {S:Nat->Prop} {L:List Res} (h:r.p w S) (hl: ∀ r∈L,∃ T,r.p w T/\ ∀ b,T b-> ¬ S b):Know w w S [r] L:=
 ⟨Mod.refl _ _,S,⟨S,fun _=>False,h,fun _ h=>h,fun _ _ h=>h,fun b=>by simp⟩,fun b hb=>.inl hb,hl⟩
theorem startS {w:World} {S:Nat->Prop} {L:List Res} (h:Sep w R S) (hl: ∀ r∈L,∃ T,r.p w T/\ ∀ b,T b-> ¬ S b):Know w w S R L:=
 ⟨Mod.refl _ _,S,h,fun b hb=>.inl hb,hl⟩
theorem turn (h:Know w0 w F (r::M) L):Turn r w0 w F:=by
 obtain ⟨hm,U,⟨S,V,h1,_,_,h4⟩,h2,_⟩:=h
 exact ⟨hm,S,h1,fun b hb=>h2 b ((h4 b).2 (.inl hb))⟩
theorem turns (h:Know w0 w F R L):Turns R w0 w F:=by
 obtain ⟨hm,U,h1,h2,_⟩:=h
 exact ⟨hm,U,h1,h2⟩
end Know
theorem Know.quiet {P:Program} {f:FuncId} {args:Array Value} {w0 w:World} {F:Nat->Prop} {M L:List Res} {v:Value} (h:Know w0 w F M L)
 (hc:Calls P f args w (Ret v w)):Calls P f args w fun e w'=>e=.returned v/\Know w0 w' F M L:=
 hc.mono fun _ _ ⟨he,m⟩=>⟨he,h.same m⟩
@[irreducible] def rBlk (b:Nat) (cs:List Value) (T:TypeId):Res where
  p w S:=Blk w b cs T/\S=only b
  loc:=by
   rintro w w' S ⟨h,rfl⟩ he
   exact ⟨(he b rfl).trans h,rfl⟩
  lt:=by
   rintro w S ⟨h,rfl⟩ b' hb
   cases hb
   exact h.lt
@[irreducible] def rRd {α:Type} (E:El α) (v:Value) (l:List α):Res where
  p w S:=Rd w E v l/\(∀ b,v.ownBlock=some b->l≠[]->0<E.sz->S b)/\ ∀ b,S b->b<w.heap.size
  loc:=by
   rintro w w' S ⟨h,h2,h3⟩ he
   have hlt: ∀ b,S b->b<w'.heap.size:=by
    intro b hb
    have:=he b hb
    rw [Array.getElem?_eq_getElem (h3 b hb)] at this
    exact (Array.getElem?_eq_some_iff.1 this).1
   refine ⟨?_,h2,hlt⟩
   obtain ⟨k1,ad,c,rfl,k2,k3⟩:=h
   refine ⟨k1,ad,c,rfl,k2,?_⟩
   rcases k3 with k3|⟨b,o,rfl,hat⟩
   · exact .inl k3
   · by_cases hl:l=[]
     · left;rw [hl];rfl
     · by_cases hz:0<E.sz
       · right
         refine ⟨b,o,rfl,fun j u hu=>?_⟩
         have h1:=hat j u hu
         rw [World.cell?_of_block (a:=⟨b,o+j,none⟩) (he b (h2 b rfl hl hz))]
         exact h1
       · right
         refine ⟨b,o,rfl,fun j u hu=>?_⟩
         have hz0:E.sz=0:=by omega
         have:(flat E.cells l).length=0:=by rw [E.flat_len,hz0];rfl
         rw [List.eq_nil_of_length_eq_zero this] at hu
         simp at hu
  lt:=by rintro w S ⟨_,_,h3⟩;exact h3
@[irreducible] def rOw {α:Type} (e:TypeId) (E:El α) (v:Value) (l:List α):Res where
  p w S:=Ow w e E v l/\S=fun b=>v.ownBlock=some b
  loc:=by
   rintro w w' S ⟨h,rfl⟩ he
   refine ⟨⟨h.1,?_⟩,rfl⟩
   rcases h.2 with h0|⟨g,cap,cur,rfl,hb0,hg,rest⟩
   · exact .inl h0
   · exact .inr ⟨g,cap,cur,rfl,hb0,(he g rfl).trans hg,rest⟩
  lt:=by
   rintro w S ⟨h,rfl⟩ b hb
   exact h.lt b hb
@[irreducible] def rAt (b o:Nat) (cs:List Value):Res where
  p w S:=At w b o cs/\b<w.heap.size/\S=only b
  loc:=by
   rintro w w' S ⟨h,h2,rfl⟩ he
   have hb:=he b rfl
   refine ⟨fun j u hu=>?_,?_,rfl⟩
   · rw [World.cell?_of_block (a:=⟨b,o+j,none⟩) hb]
     exact h j u hu
   · rw [Array.getElem?_eq_getElem h2] at hb
     exact (Array.getElem?_eq_some_iff.1 hb).1
  lt:=by
   rintro w S ⟨h,h2,rfl⟩ b' hb
   cases hb
   exact h2
theorem Has.at {w:World} {b o:Nat} {cs:List Value} (h:Has w (rAt b o cs)):At w b o cs:=by
 unfold rAt at h;obtain ⟨_,h,_⟩:=h;exact h
theorem At.has {w:World} {b o:Nat} {cs:List Value} (h:At w b o cs) (hn:cs≠[]):Has w (rAt b o cs):=by
 unfold rAt;exact ⟨_,h,h.lt hn,rfl⟩
theorem Has.blk {w:World} {b:Nat} {cs:List Value} {T:TypeId} (h:Has w (rBlk b cs T)):Blk w b cs T:=by
 unfold rBlk at h;obtain ⟨_,h,_⟩:=h;exact h
theorem Has.rd {α:Type} {E:El α} {w:World} {v:Value} {l:List α} (h:Has w (rRd E v l)):Rd w E v l:=by
 unfold rRd at h;obtain ⟨_,h,_⟩:=h;exact h
theorem Has.ow {α:Type} {E:El α} {w:World} {e:TypeId} {v:Value} {l:List α} (h:Has w (rOw e E v l)):Ow w e E v l:=by
 unfold rOw at h;obtain ⟨_,h,_⟩:=h;exact h
theorem Has.ord {α:Type} {E:El α} {w:World} {e:TypeId} {v:Value} {l:List α} (h:Has w (rOw e E v l)):Rd w E v l:=h.ow.rd
theorem rBlk_p {w:World} {b:Nat} {cs:List Value} {T:TypeId} {S:Nat->Prop}:(rBlk b cs T).p w S ↔ Blk w b cs T/\S=only b:=by unfold rBlk;exact Iff.rfl
theorem rOw_p {α:Type} {E:El α} {w:World} {e:TypeId} {v:Value} {l:List α} {S:Nat->Prop}:(rOw e E v l).p w S ↔ Ow w e E v l/\S=fun b=>v.ownBlock=some b:=by unfold rOw;exact Iff.rfl
theorem Rd.has {α:Type} {E:El α} {w:World} {v:Value} {l:List α} (h:Rd w E v l):Has w (rRd E v l):=by
 unfold rRd
 by_cases hl:l=[]
 · exact ⟨fun _=>False,h,fun _ _ hn=>(hn hl).elim,fun _ hb=>hb.elim⟩
 · by_cases hz:0<E.sz
   · exact ⟨fun b=>v.ownBlock=some b,h,fun _ hb _ _=>hb,fun b hb=>h.lt hz hl b hb⟩
   · exact ⟨fun _=>False,h,fun _ _ _ hn=>(hz hn).elim,fun _ hb=>hb.elim⟩
theorem rRd_nil {α:Type} (E:El α) (w:World) (v:Value) (h:Rd w E v []): ∃ T,(rRd E v ([]:List α)).p w T/\ ∀ b,¬ T b:=by
 unfold rRd
 exact ⟨fun _=>False,⟨h,fun _ _ hn=>(hn rfl).elim,fun _ hb=>hb.elim⟩,fun _ h=>h⟩
theorem Turn.blk {w w':World} {b:Nat} {cs:List Value} {T:TypeId} (hb:w.heap.size<=b) (h:Blk w' b cs T) (m:Mod none' w w'):Turn (rBlk b cs T) w w' none':=
 ⟨m,only b,rBlk_p.2 ⟨h,rfl⟩,fun _ h=>by cases h;exact .inr hb⟩
theorem Turn.own {α:Type} {E:El α} {w w':World} {e:TypeId} {v:Value} {l:List α} (h:Ow w' e E v l) (m:Mod none' w w') (hb: ∀ b,v.ownBlock=some b->w.heap.size<=b):Turn (rOw e E v l) w w' none':=
 ⟨m,_,rOw_p.2 ⟨h,rfl⟩,fun b h=>.inr (hb b h)⟩
end Go.Sk
namespace Go.Sk
open Go
inductive Ix:List Res->Res->Nat->Prop
 |head {r:Res} {M:List Res}:Ix (r::M) r 0
 |tail {x r:Res} {M:List Res} {i:Nat}:Ix M r i->Ix (x::M) r (i+1)
inductive MemB (b:Nat) (cs:List Value) (T:TypeId):List Res->Prop
 |head {M:List Res}:MemB b cs T (rBlk b cs T::M)
 |tail {x:Res} {M:List Res}:MemB b cs T M->MemB b cs T (x::M)
inductive MemS {α:Type} (E:El α) (v:Value) (l:List α):List Res->Prop
 |rd {M:List Res}:MemS E v l (rRd E v l::M)
 |ow {e:TypeId} {M:List Res}:MemS E v l (rOw e E v l::M)
 |tail {x:Res} {M:List Res}:MemS E v l M->MemS E v l (x::M)
theorem MemB.mem {b:Nat} {cs:List Value} {T:TypeId} {M:List Res} (h:MemB b cs T M):rBlk b cs T∈M:=by
 induction h with
 |head=>exact List.mem_cons_self
 |tail _ ih=>exact List.mem_cons_of_mem _ ih
theorem MemS.mem {α:Type} {E:El α} {v:Value} {l:List α} {M:List Res} (h:MemS E v l M):rRd E v l∈M\/ ∃ e,rOw e E v l∈M:=by
 induction h with
 |rd=>exact .inl List.mem_cons_self
 |ow=>exact .inr ⟨_,List.mem_cons_self⟩
 |tail _ ih=>exact ih.imp (List.mem_cons_of_mem _) fun ⟨e,h⟩=>⟨e,List.mem_cons_of_mem _ h⟩
section
variable {w0 w:World} {F:Nat->Prop} {M L:List Res}
theorem Know.blk {b:Nat} {cs:List Value} {T:TypeId} (h:Know w0 w F M L) (hm:MemB b cs T M\/MemB b cs T L:=by first|(left;repeat (first|exact MemB.head|apply MemB.tail));done|(right;repeat (first|exact MemB.head|apply MemB.tail));done):Blk w b cs T:=
 (h.get (List.mem_append.2 (hm.imp (·.mem) (·.mem)))).blk
theorem Know.rd {α:Type} {E:El α} {v:Value} {l:List α} (h:Know w0 w F M L) (hm:MemS E v l M\/MemS E v l L:=by first|(left;repeat (first|exact MemS.rd|exact MemS.ow|apply MemS.tail));done|(right;repeat (first|exact MemS.rd|exact MemS.ow|apply MemS.tail));done):Rd w E v l:=by
 rcases hm with hm|hm<;>rcases hm.mem with hm|⟨e,hm⟩
 · exact (h.get (List.mem_append_left _ hm)).rd
 · exact (h.get (List.mem_append_left _ hm)).ord
 · exact (h.get (List.mem_append_right _ hm)).rd
 · exact (h.get (List.mem_append_right _ hm)).ord
theorem Ix.hole {M:List Res} {r:Res} {i:Nat} (h:Ix M r i): ∃ A B,M=A++r::B/\ ∀ r',M.set i r'=A++([r']++B):=by
 induction h with
 |head=>exact ⟨[],_,rfl,fun _=>rfl⟩
 |tail _ ih=>
  obtain ⟨A,B,rfl,h⟩:=ih
  exact ⟨_::A,B,rfl,fun r'=>by rw [List.set_cons_succ,h r'];rfl⟩
theorem Know.stepI {r:Res} {i:Nat} (h:Know w0 w F M L) (hi:Ix M r i): ∃ S,r.p w S/\ ∀ w' r',Turn r' w w' S->Know w0 w' F (M.set i r') L:=by
 obtain ⟨A,B,rfl,hs⟩:=hi.hole
 obtain ⟨S,h1,h2⟩:=h.stepH
 exact ⟨S,h1,fun w' r' ht=>by rw [hs];exact h2 w' [r'] ht.s⟩
variable {P:Program} {ops:Array Oper} {rest:List Oper} {o:Oper} {a:Act} {Q:Exit->Act->World->Prop}
theorem wl_boxK {t:TypeId} {x:Operand} {v:Value} {zs:List Value} (hK:Know w0 w F M L) (ho:o.op=.box t x) (hw:Region.wanted o (yielded ops a.tmps)=true) (hx:a.eval x=v) (hs:v.cells=zs.toArray)
 (h: ∀ w' b,Know w0 w' F (rBlk b zs t::M) L->wpList P ops Q rest (a.put o.dst (.pointer (some ⟨b,0,none⟩))) w'):wpList P ops Q (o::rest) a w:=
 wl_box ho hw hx hs fun w' b hb hB m=>h w' b (hK.push1 (Turn.blk hb hB m))
theorem wl_allocK {t:TypeId} {z:Value} {zs:List Value} (hK:Know w0 w F M L) (ho:o.op=.alloc t) (hw:Region.wanted o (yielded ops a.tmps)=true) (hz:(P.info? t).bind (·.zero)=some z) (hs:z.cells=zs.toArray)
 (h: ∀ w' b,Know w0 w' F (rBlk b zs t::M) L->wpList P ops Q rest (a.put o.dst (.pointer (some ⟨b,0,none⟩))) w'):wpList P ops Q (o::rest) a w:=
 wl_alloc ho hw hz hs fun w' b hb hB m=>h w' b (hK.push1 (Turn.blk hb hB m))
theorem wl_loadK {t:TypeId} {x:Operand} {b k:Nat} {v:Value} {cs:List Value} {T:TypeId} (hK:Know w0 w F M L) (ho:o.op=.load t x) (hw:Region.wanted o (yielded ops a.tmps)=true) (hx:a.eval x=.pointer (some ⟨b,k,none⟩))
 (ht:scalarB P t=true)
 (hm:MemB b cs T M\/MemB b cs T L:=by first|(left;repeat (first|exact MemB.head|apply MemB.tail));done|(right;repeat (first|exact MemB.head|apply MemB.tail));done)
 (hv:cs[k]?=some v:=by rfl) (h:wpList P ops Q rest (a.put o.dst v) w):wpList P ops Q (o::rest) a w:=
 wl_load ho hw hx ht (((hK.blk hm).cell k).trans hv) h
theorem wl_loadSK {t:TypeId} {x:Operand} {b n:Nat} {cs:List Value} {T:TypeId} (hK:Know w0 w F M L) (ho:o.op=.load t x) (hw:Region.wanted o (yielded ops a.tmps)=true) (hx:a.eval x=.pointer (some ⟨b,0,none⟩))
 (ht:aggB P t n=true)
 (hm:MemB b cs T M\/MemB b cs T L:=by first|(left;repeat (first|exact MemB.head|apply MemB.tail));done|(right;repeat (first|exact MemB.head|apply MemB.tail));done)
 (hn:cs.length=n:=by rfl) (h:wpList P ops Q rest (a.put o.dst (.agg cs.toArray)) w):wpList P ops Q (o::rest) a w:=
 wl_loadS ho hw hx ht hn (hK.blk hm).at0 h
theorem wl_storeK {t:TypeId} {x y:Operand} {b k i:Nat} {v:Value} {cs:List Value} {T:TypeId} (hK:Know w0 w F M L) (ho:o.op=.store t x y) (hw:Region.wanted o (yielded ops a.tmps)=true) (hx:a.eval x=.pointer (some ⟨b,k,none⟩)) (hy:a.eval y=v)
 (ht:sizeB P t 1=true) (hv:v.oneCell'=true)
 (hi:Ix M (rBlk b cs T) i:=by repeat (first|exact Ix.head|apply Ix.tail)) (hk:k<cs.length:=by decide)
 (h: ∀ w',Know w0 w' F (M.set i (rBlk b (cs.set k v) T)) L->wpList P ops Q rest (a.put o.dst undef) w'):wpList P ops Q (o::rest) a w:=by
 obtain ⟨S,h1,h2⟩:=hK.stepI hi
 obtain ⟨hB,rfl⟩:=rBlk_p.1 h1
 exact wl_store ho hw hx hy ht hv hB hk fun w' hB' m=>h w' (h2 w' _ ⟨m,only b,rBlk_p.2 ⟨hB',rfl⟩,fun _ h=>.inl h⟩)
theorem wl_storeWK {t:TypeId} {x y:Operand} {b n i:Nat} {vs cs:List Value} {T:TypeId} (hK:Know w0 w F M L) (ho:o.op=.store t x y) (hw:Region.wanted o (yielded ops a.tmps)=true) (hx:a.eval x=.pointer (some ⟨b,0,none⟩)) (hy:a.eval y=.agg vs.toArray)
 (ht:sizeB P t n=true) (hv: ∀ v∈vs,v.oneCell'=true)
 (hi:Ix M (rBlk b cs T) i:=by repeat (first|exact Ix.head|apply Ix.tail)) (hn:vs.length=n:=by rfl) (hk:cs.length=n:=by rfl)
 (h: ∀ w',Know w0 w' F (M.set i (rBlk b vs T)) L->wpList P ops Q rest (a.put o.dst undef) w'):wpList P ops Q (o::rest) a w:=by
 obtain ⟨S,h1,h2⟩:=hK.stepI hi
 obtain ⟨hB,rfl⟩:=rBlk_p.1 h1
 exact wl_storeW ho hw hx hy ht hn hv hB hk fun w' hB' m=>h w' (h2 w' _ ⟨m,only b,rBlk_p.2 ⟨hB',rfl⟩,fun _ h=>.inl h⟩)
theorem Ow.cell_set {α:Type} {E:El α} {e:TypeId} {v:Value} {l:List α} {b k i:Nat} (h:Ow w e E v l) (hv:v.ownBlock=some b) (hk:k=i*E.sz) (hi:i<l.length):
 ∃ cur,Blk w b cur e/\k+E.sz<=cur.length/\ ∀ w' x,Blk w' b (cur.take k++E.cells x++cur.drop (k+E.sz)) e->Ow w' e E v (l.set i x):=by
 subst hk
 obtain ⟨h1,h2⟩:=h
 rcases h2 with ⟨h2,h3⟩|⟨g,cap,cur,rfl,hb0,hg,h4,h5,h6,h7⟩
 · rw [h2] at hv;cases hv
 · cases hv
   have hle:(i+1)*E.sz<=l.length*E.sz:=Nat.mul_le_mul_right _ hi
   have hle2:l.length*E.sz<=cap*E.sz:=Nat.mul_le_mul_right _ h4
   rw [Nat.succ_mul] at hle
   have hcl:cur.toList.length=cap*E.sz:=by simpa using h6
   refine ⟨cur.toList,by simpa [Blk] using hg,by omega,fun w' x hB=>⟨?_,.inr ⟨g,cap,_,by simp,hb0,hB,by simpa using h4,h5,?_,?_⟩⟩⟩
   · rw [E.flat_len]
   · simp only [List.size_toArray,List.length_append,List.length_take,List.length_drop,E.len,hcl];omega
   · have e1:(cur.toList.take (i*E.sz)).length=i*E.sz:=by rw [List.length_take];omega
     simp only [List.length_set]
     have e2:l.set i x=l.take i++[x]++l.drop (i+1):=by
      rw [List.set_eq_take_append_cons_drop,if_pos hi];simp
     rw [e2,flat_append,flat_append,flat_take E.cells E.sz E.len,flat_drop E.cells E.sz E.len,<-h7]
     have e3:flat E.cells [x]=E.cells x:=by simp [flat]
     rw [e3,List.take_take,Nat.min_eq_left (by omega)]
     simp only [List.append_assoc]
     rw [List.take_append,e1,List.take_of_length_le (by omega)]
     congr 1
     rw [List.take_append,E.len,List.take_of_length_le (by rw [E.len];omega)]
     congr 1
     rw [List.drop_take,Nat.succ_mul,Nat.sub_sub]
def Spot {α:Type} (E:El α) (v:Value) (b k i:Nat):Prop:=v.ownBlock=some b/\k=i*E.sz
theorem Ow.elem {α:Type} {E:El α} {e:TypeId} {ad:Option Addr} {n c:Nat} {l:List α} (h:Ow w e E (.slice ad n c) l) {i:Nat} {x:α} (hi:l[i]?=some x):
 ∃ b,ad=some ⟨b,0,none⟩/\At w b (i*E.sz) (E.cells x):=by
 obtain ⟨b,o,rfl,hat⟩:=h.rd.elem hi
 have hlt:i<l.length:=(List.getElem?_eq_some_iff.1 hi).1
 rcases h.2 with ⟨h2,_⟩|⟨g,cap,cur,h2,_⟩
 · cases h2
 · injection h2 with h2 _ _
   injection h2 with h2
   injection h2 with h3 h4 _
   subst h3 h4
   rw [Nat.zero_add] at hat
   exact ⟨_,rfl,hat⟩
theorem wl_ixK {α:Type} {E:El α} {t e:TypeId} {x y:Operand} {n c i:Nat} {ad:Option Addr} {kd:IntKind} {xs:List α} {u:α} (hK:Know w0 w F M L) (ho:o.op=.indexAddr t x y) (hw:Region.wanted o (yielded ops a.tmps)=true) (hx:a.eval x=.slice ad n c) (hy:a.eval y=.int kd (i:Int))
 (ht:P.underlying t=some (.slice e)) (hsz:sizeB P e E.sz=true)
 (hm:MemS E (.slice ad n c) xs M\/MemS E (.slice ad n c) xs L:=by first|(left;repeat (first|exact MemS.rd|exact MemS.ow|apply MemS.tail));done|(right;repeat (first|exact MemS.rd|exact MemS.ow|apply MemS.tail));done)
 (hu:RowKit.Hid (xs[i]?=some u):=by assumption)
 (h: ∀ b k,At w b k (E.cells u)->wpList P ops Q rest (a.put o.dst (.pointer (some ⟨b,k,none⟩))) w):wpList P ops Q (o::rest) a w:=
 wl_ix ho hw hx hy ht hsz (hK.rd hm) hu.out fun b k h1 _=>h b k h1
theorem wl_ixO {α:Type} {E:El α} {t e e':TypeId} {x y:Operand} {n c i j:Nat} {ad:Option Addr} {kd:IntKind} {xs:List α} {u:α} (hK:Know w0 w F M L) (ho:o.op=.indexAddr t x y) (hw:Region.wanted o (yielded ops a.tmps)=true) (hx:a.eval x=.slice ad n c) (hy:a.eval y=.int kd (i:Int))
 (ht:P.underlying t=some (.slice e)) (hsz:sizeB P e E.sz=true)
 (hi:Ix M (rOw e' E (.slice ad n c) xs) j:=by repeat (first|exact Ix.head|apply Ix.tail))
 (hu:RowKit.Hid (xs[i]?=some u):=by assumption)
 (h: ∀ b k,At w b k (E.cells u)->Spot E (.slice ad n c) b k i->wpList P ops Q rest (a.put o.dst (.pointer (some ⟨b,k,none⟩))) w):wpList P ops Q (o::rest) a w:=by
 have hO:Ow w e' E (.slice ad n c) xs:=by
  obtain ⟨S,h1,_⟩:=hK.stepI hi
  exact (rOw_p.1 h1).1
 have hlt:i<xs.length:=(List.getElem?_eq_some_iff.1 hu.out).1
 obtain ⟨b,rfl,hat⟩:=hO.elem hu.out
 refine wl_indexAddr (b:=b) (k:=0) ho hw hx hy ht hsz (Int.natCast_nonneg i) (by rw [hO.rd.n];omega) ?_
 rw [Int.toNat_natCast,Nat.zero_add]
 exact h b _ hat ⟨rfl,rfl⟩
theorem wl_loadA {t:TypeId} {x:Operand} {b k j:Nat} {v:Value} {cs:List Value} (ho:o.op=.load t x) (hw:Region.wanted o (yielded ops a.tmps)=true) (hx:a.eval x=.pointer (some ⟨b,k+j,none⟩))
 (ht:scalarB P t=true) (hat:At w b k cs:=by assumption) (hv:cs[j]?=some v:=by rfl) (h:wpList P ops Q rest (a.put o.dst v) w):wpList P ops Q (o::rest) a w:=
 wl_load ho hw hx ht (hat.cell hv) h
theorem wl_loadA0 {t:TypeId} {x:Operand} {b k:Nat} {v:Value} {cs:List Value} (ho:o.op=.load t x) (hw:Region.wanted o (yielded ops a.tmps)=true) (hx:a.eval x=.pointer (some ⟨b,k,none⟩))
 (ht:scalarB P t=true) (hat:At w b k cs:=by assumption) (hv:cs[0]?=some v:=by rfl) (h:wpList P ops Q rest (a.put o.dst v) w):wpList P ops Q (o::rest) a w:=
 wl_load (k:=k+0) ho hw hx ht (hat.cell hv) h
theorem wl_loadSA {t:TypeId} {x:Operand} {b k n:Nat} {cs:List Value} (ho:o.op=.load t x) (hw:Region.wanted o (yielded ops a.tmps)=true) (hx:a.eval x=.pointer (some ⟨b,k,none⟩))
 (ht:aggB P t n=true) (hat:At w b k cs:=by assumption) (hn:cs.length=n:=by rfl) (h:wpList P ops Q rest (a.put o.dst (.agg cs.toArray)) w):wpList P ops Q (o::rest) a w:=
 wl_loadS ho hw hx ht hn hat h
theorem wl_loadP {t:TypeId} {x:Operand} {b k n:Nat} {cs:List Value} (j:Nat) (ds:List Value) (ho:o.op=.load t x) (hw:Region.wanted o (yielded ops a.tmps)=true) (hx:a.eval x=.pointer (some ⟨b,k+j,none⟩))
 (ht:aggB P t n=true) (hat:At w b k cs:=by assumption) (hd:(cs.drop j).take ds.length=ds:=by rfl) (hn:ds.length=n:=by rfl) (h:wpList P ops Q rest (a.put o.dst (.agg ds.toArray)) w):wpList P ops Q (o::rest) a w:=
 wl_loadS ho hw hx ht hn (hat.part j fun i u hu=>by
  rw [<-hd,List.getElem?_take] at hu
  split at hu
  · rwa [List.getElem?_drop] at hu
  · cases hu) h
theorem wl_loadP0 {t:TypeId} {x:Operand} {b k n:Nat} {cs:List Value} (ds:List Value) (ho:o.op=.load t x) (hw:Region.wanted o (yielded ops a.tmps)=true) (hx:a.eval x=.pointer (some ⟨b,k,none⟩))
 (ht:aggB P t n=true) (hat:At w b k cs:=by assumption) (hd:(cs.drop 0).take ds.length=ds:=by rfl) (hn:ds.length=n:=by rfl) (h:wpList P ops Q rest (a.put o.dst (.agg ds.toArray)) w):wpList P ops Q (o::rest) a w:=
 wl_loadP 0 ds ho hw hx ht hat hd hn h
theorem Know.nil {α:Type} (e:TypeId) (E:El α) (h:Know w0 w F M L):Know w0 w F (rOw e E (.slice none 0 0) ([]:List α)::M) L:=
 h.push1 (Turn.own (Ow.nil w e E) (Mod.refl _ _) fun b hb=>by cases hb)
theorem wl_storeE {α:Type} {E:El α} {t e:TypeId} {x y:Operand} {b k i j:Nat} {v:Value} {ad:Option Addr} {n c:Nat} {xs:List α} (u:α) (hK:Know w0 w F M L) (ho:o.op=.store t x y) (hw:Region.wanted o (yielded ops a.tmps)=true) (hx:a.eval x=.pointer (some ⟨b,k,none⟩)) (hy:a.eval y=v)
 (ht:sizeB P t E.sz=true) (hs:Spot E (.slice ad n c) b k i)
 (hi:Ix M (rOw e E (.slice ad n c) xs) j:=by repeat (first|exact Ix.head|apply Ix.tail)) (hlt:i<xs.length:=by assumption)
 (hv:(v=.agg (E.cells u).toArray)\/(E.sz=1/\[v]=E.cells u):=by first|exact .inl rfl|exact .inr ⟨rfl,rfl⟩)
 (h: ∀ w',Know w0 w' F (M.set j (rOw e E (.slice ad n c) (xs.set i u))) L->wpList P ops Q rest (a.put o.dst undef) w'):wpList P ops Q (o::rest) a w:=by
 obtain ⟨S,h1,h2⟩:=hK.stepI hi
 obtain ⟨hO,rfl⟩:=rOw_p.1 h1
 obtain ⟨hb,rfl⟩:=hs
 obtain ⟨cur,hB,hlen,hset⟩:=hO.cell_set hb rfl hlt
 have hfin: ∀ w',Blk w' b (cur.take (i*E.sz)++E.cells u++cur.drop (i*E.sz+E.sz)) e->Mod (only b) w w'->wpList P ops Q rest (a.put o.dst undef) w':=fun w' hB' m=>
  h w' (h2 w' _ ⟨m.mono fun b' hb'=>by cases hb';exact hb,_,rOw_p.2 ⟨hset w' u hB',rfl⟩,fun _ h=>.inl h⟩)
 rcases hv with rfl|⟨h1,hv⟩
 · exact wl_storeS ho hw hx hy ht (E.len u) (E.one u) hB hlen hfin
 · rw [h1] at ht
   refine wl_store ho hw hx hy ht (E.one u v (by rw [<-hv];simp)) hB (by omega) fun w' hB' m=>hfin w' ?_ m
   rw [List.set_eq_take_append_cons_drop,if_pos (by omega)] at hB'
   rw [<-hv,List.append_assoc]
   rw [show i*E.sz+E.sz=i*E.sz+1 from by omega]
   exact hB'
theorem wl_appK {α:Type} {E:El α} {s x:Operand} {t e:TypeId} {zs:List Value} {bytes j:Nat} {v y:Value} {xs ys:List α} (hK:Know w0 w F M L) (T:SliceTy P t e E.sz bytes zs)
 (ho:o.op=.call {callee:=.builtin .append,args:= #[s,x],argTypes:= #[t,t]}) (hw:Region.wanted o (yielded ops a.tmps)=true) (hs:a.eval s=v) (hx:a.eval x=y)
 (hsl:Rd w E y ys) (hm:xs.length+ys.length<=maxLen) (hb:(xs.length+ys.length)*bytes<=140737488355328)
 (hi:Ix M (rOw e E v xs) j:=by repeat (first|exact Ix.head|apply Ix.tail))
 (h: ∀ ad N c w',N=(xs++ys).length->Know w0 w' F (M.set j (rOw e E (.slice ad N c) (xs++ys))) L->wpList P ops Q rest (a.put o.dst (.slice ad N c)) w'):wpList P ops Q (o::rest) a w:=by
 obtain ⟨S,h1,h2⟩:=hK.stepI hi
 obtain ⟨hO,rfl⟩:=rOw_p.1 h1
 exact wl_app T hO hsl ho hw hs hx hm hb fun ad N c w' k1 k2 k3=>h ad N c w' k1.rd.n (h2 w' _ ⟨k2,_,rOw_p.2 ⟨k1,rfl⟩,k3⟩)
theorem wl_appN {α:Type} {E:El α} {s x:Operand} {t e:TypeId} {zs:List Value} {bytes:Nat} {y:Value} {ys:List α} (hK:Know w0 w F M L) (T:SliceTy P t e E.sz bytes zs)
 (ho:o.op=.call {callee:=.builtin .append,args:= #[s,x],argTypes:= #[t,t]}) (hw:Region.wanted o (yielded ops a.tmps)=true) (hs:a.eval s=.slice none 0 0) (hx:a.eval x=y)
 (hsl:Rd w E y ys) (hm:ys.length<=maxLen) (hb:ys.length*bytes<=140737488355328)
 (h: ∀ ad N c w',N=ys.length->Know w0 w' F (rOw e E (.slice ad N c) ys::M) L->wpList P ops Q rest (a.put o.dst (.slice ad N c)) w'):wpList P ops Q (o::rest) a w:=
 wl_app (xs:=[]) T (Ow.nil _ _ _) hsl ho hw hs hx (by simpa using hm) (by simpa using hb) fun ad N c w' k1 k2 k3=>by
  rw [List.nil_append] at k1
  exact h ad N c w' k1.rd.n (hK.push1 (Turn.own k1 (k2.mono fun b hb=>by cases hb) fun b hb=>(k3 b hb).resolve_left (fun h=>by cases h)))
theorem mk_cells (zs:List Value): ∀ n,((List.range n).flatMap fun _=>zs)=(List.replicate n zs).flatten
 |0=>rfl
 |n+1=>by rw [List.range_succ,List.flatMap_append,mk_cells zs n,List.replicate_succ',List.flatten_append];simp
theorem flat_replicate {α:Type} (c:α->List Value) (z:α): ∀ n,flat c (List.replicate n z)=(List.replicate n (c z)).flatten
 |0=>rfl
 |n+1=>by
  have ih:=flat_replicate c z n
  unfold flat at*
  rw [List.replicate_succ,List.flatMap_cons,ih,List.replicate_succ,List.flatten_cons]
theorem wl_makeK {α:Type} {E:El α} {t e:TypeId} {x y:Operand} {zs:List Value} {bytes n:Nat} {k1 k2:IntKind} (z:α) (hK:Know w0 w F M L) (T:SliceTy P t e E.sz bytes zs) (hz:E.cells z=zs) (ho:o.op=.makeSlice t x y) (hw:Region.wanted o (yielded ops a.tmps)=true) (hx:a.eval x=.int k1 (n:Int)) (hy:a.eval y=.int k2 (n:Int))
 (hn:bytes*n<=281474976710656) (h63:n<=maxLen)
 (h: ∀ ad w',Know w0 w' F (rOw e E (.slice ad n n) (List.replicate n z)::M) L->wpList P ops Q rest (a.put o.dst (.slice ad n n)) w'):wpList P ops Q (o::rest) a w:=
 wl_mk T ho hw hx hy hn (by unfold maxLen at h63;omega) fun w' b hb hB m=>by
  have he:((List.range n).flatMap fun _=>zs)=flat E.cells (List.replicate n z):=by rw [mk_cells,flat_replicate,hz]
  rw [he] at hB
  refine h _ w' (hK.push1 (Turn.own (hB.ow (by simp) h63) m fun b' hb'=>?_))
  cases hb';exact hb
theorem wl_copyK {α:Type} {E:El α} {x y:Operand} {t t2 e:TypeId} {zs:List Value} {bytes j n c:Nat} {ad:Option Addr} {v:Value} {xs ys:List α} (hK:Know w0 w F M L) (T:SliceTy P t e E.sz bytes zs)
 (ho:o.op=.call {callee:=.builtin .copy,args:= #[x,y],argTypes:= #[t,t2]}) (hw:Region.wanted o (yielded ops a.tmps)=true) (hx:a.eval x=.slice ad n c) (hy:a.eval y=v)
 (hsl:Rd w E v ys) (hl:ys.length=xs.length) (hne:0<xs.length)
 (hi:Ix M (rOw e E (.slice ad n c) xs) j:=by repeat (first|exact Ix.head|apply Ix.tail))
 (h: ∀ w',Know w0 w' F (M.set j (rOw e E (.slice ad n c) ys)) L->wpList P ops Q rest (a.put o.dst (.int .i64 ys.length)) w'):wpList P ops Q (o::rest) a w:=by
 obtain ⟨S,h1,h2⟩:=hK.stepI hi
 obtain ⟨hO,rfl⟩:=rOw_p.1 h1
 have hn:=hO.rd.n
 subst hn
 obtain ⟨k1,k2⟩:=hO
 rcases k2 with ⟨k2,_⟩|⟨g,cap,cur,k2,hb0,hg,h4,h5,h6,h7⟩
 · injection k2 with _ k2 _;omega
 · injection k2 with k2 _ k3
   subst k2 k3
   have hcl:cur.toList.length=c*E.sz:=by simpa using h6
   have hle:xs.length*E.sz<=c*E.sz:=Nat.mul_le_mul_right _ h4
   refine wl_copy (n:=xs.length) (m:=ys.length) ho hw hx hy T.und T.size (show Blk w g cur.toList e by simpa [Blk] using hg) (by omega) hsl (E.flat_one ys) (by omega) fun w' hB m=>h w' (h2 w' _ ⟨m.mono fun b hb=>by cases hb;rfl,_,rOw_p.2 ⟨⟨E.flat_len ys,.inr ⟨g,c,_,by rw [hl],hb0,hB,by omega,h5,?_,?_⟩⟩,rfl⟩,fun _ hb=>.inl hb⟩)
   · simp only [List.size_toArray,List.length_append,E.flat_len,List.length_drop,hcl,hl];omega
   · rw [List.take_append_of_le_length (by rw [E.flat_len];exact Nat.le_refl _),List.take_of_length_le (by rw [E.flat_len];exact Nat.le_refl _)]
theorem wl_buildK {α:Type} {t:TypeId} {len:Nat} {parts:Array (Nat×Operand)} (e:TypeId) (E:El α) (xs:List α) (hK:Know w0 w F M L) (ho:o.op=.buildSlice t len parts) (hw:Region.wanted o (yielded ops a.tmps)=true)
 (hr: ∀ W:World,(Instr.buildSlice t len (parts.map fun (i,x)=>(i,a.eval x))).run P W=.ok (.slice (some ⟨W.heap.size,0,none⟩) len len) (W.alloc (.cells (flat E.cells xs).toArray e)))
 (hn:len=xs.length) (hl:len<=maxLen)
 (h: ∀ ad w',Know w0 w' F (rOw e E (.slice ad len len) xs::M) L->wpList P ops Q rest (a.put o.dst (.slice ad len len)) w'):wpList P ops Q (o::rest) a w:=
 wl_buildSlice ho hw hr fun w' b hb hB m=>by
  refine h _ w' (hK.push1 (Turn.own (hB.ow hn hl) m fun b' hb'=>?_))
  cases hb';exact hb
theorem wp_region_textK {id:Nat} {Q:Exit->Act->World->Prop} {a:Act} {l:List Oper} (hK:Know w0 w F M L) (hm:P.follows .mixedOrders=true) (hB:drawOk P l=true)
 (h: ∀ w',Know w0 w' F M L->wpList P l.toArray (atEnd fun a w=>shapesOk P l.toArray l a=true/\Q .normal a w) l a w'):(Code.region id l.toArray true).wp P Q a w:=
 wp_region_text hm hB (h _ (hK.same (Mod.drew w)))
theorem tx (id:Nat) {Q:Exit->Act->World->Prop} {a:Act} {l:List Oper} (hK:Know w0 w F M L)
 (h: ∀ w',Know w0 w' F M L->wpList P l.toArray (atEnd fun a w=>shapesOk P l.toArray l a=true/\Q .normal a w) l a w') (hm:P.follows .mixedOrders=true:=by kernel_rfl) (hB:drawOk P l=true:=by kernel_rfl):(Code.region id l.toArray true).wp P Q a w:=
 wp_region_text hm hB (h _ (hK.same (Mod.drew w)))
theorem wp_region_stableK {id:Nat} {Q:Exit->Act->World->Prop} {a:Act} {l:List Oper} (hK:Know w0 w F M L) (S:List Nat) (R:List Res) (hm:P.follows .mixedOrders=true) (hB:drawOkS P S l=true)
 (hC: ∀ r∈R,r∈M++L) (hd:(l.all fun o=>match o.dst with|some d=>decide (d<a.tmps.size)|none=>true)=true)
 (h: ∀ w',Know w0 w' F M L->wpC P l.toArray (fun W=> ∀ r∈R,Has W r) (fun a w=>shapesOk P l.toArray l a=true/\stays P l.toArray (fun W=> ∀ r∈R,Has W r) S a/\Q .normal a w) l a w'):(Code.region id l.toArray true).wp P Q a w:=
 wp_region_stable S _ hm hB (fun r hr=>(hK.same (Mod.drew w)).get (hC r hr)) (fun w ob h r hr=>(h r hr).mod (Mod.alloc _ _)) hd (h _ (hK.same (Mod.drew w)))
theorem wp_region_lastK {id:Nat} {Q:Exit->Act->World->Prop} {a:Act} {l:List Oper} (hK:Know w0 w F M L) (S:List Nat) (R:List Res) (hm:P.follows .mixedOrders=true) (hB:drawOkZ P S l=true)
 (hC: ∀ r∈R,r∈M++L) (hd:(l.all fun o=>match o.dst with|some d=>decide (d<a.tmps.size)|none=>true)=true)
 (h: ∀ w',Know w0 w' F M L->wpC P l.toArray (fun W=> ∀ r∈R,Has W r) (fun a w=>shapesOk P l.toArray l a=true/\stays P l.toArray (fun W=> ∀ r∈R,Has W r) S a/\wpList P l.toArray Q (l.drop (l.length - 1)) a w) l.dropLast a w'):(Code.region id l.toArray true).wp P Q a w:=
 wp_region_last S _ hm hB (fun r hr=>(hK.same (Mod.drew w)).get (hC r hr)) (fun w ob h r hr=>(h r hr).mod (Mod.alloc _ _)) hd (h _ (hK.same (Mod.drew w)))
theorem Know.cls {R:List Res} (h:Know w0 w F M L) (hC: ∀ r∈R,r∈M++L): ∀ r∈R,Has w r:=fun r hr=>h.get (hC r hr)
theorem wpC_end' {C:World->Prop} {Q:Act->World->Prop} {a:Act} (h:wpC P ops C Q [] a w):wpC P ops C Q [] a w:=h
theorem stays_loadK {k:Nat} {S:List Nat} {a:Act} {o:Oper} {t:TypeId} {x:Operand} {b off d:Nat} {v:Value} {R:List Res} {cs:List Value} {T:TypeId} (ho:ops[k]?=some o) (hop:o.op=.load t x) (hd:o.dst=some d) (hx:a.eval x=.pointer (some ⟨b,off,none⟩))
 (hs:scalarB P t=true) (hv:a.tmps.getD d undef=v) (hm:MemB b cs T R:=by repeat (first|exact MemB.head|apply MemB.tail)) (hc:cs[off]?=some v:=by rfl) (rest:stays P ops (fun W=> ∀ r∈R,Has W r) S a):stays P ops (fun W=> ∀ r∈R,Has W r) (k::S) a:=
 stays_load ho hop hd hx hs hv (fun W hW=>((hW _ hm.mem).blk.cell off).trans hc) rest
theorem stays_loadSK {k:Nat} {S:List Nat} {a:Act} {o:Oper} {t:TypeId} {x:Operand} {b d n:Nat} {R:List Res} {cs:List Value} {T:TypeId} (ho:ops[k]?=some o) (hop:o.op=.load t x) (hd:o.dst=some d) (hx:a.eval x=.pointer (some ⟨b,0,none⟩))
 (hs:aggB P t n=true) (hm:MemB b cs T R:=by repeat (first|exact MemB.head|apply MemB.tail)) (hn:cs.length=n:=by rfl) (hv:a.tmps.getD d undef=.agg cs.toArray:=by rfl) (rest:stays P ops (fun W=> ∀ r∈R,Has W r) S a):stays P ops (fun W=> ∀ r∈R,Has W r) (k::S) a:=by
 intro k' hk o' ho' hw W hW
 rcases List.mem_cons.1 hk with rfl|hk
 · rw [ho] at ho'
   injection ho' with ho'
   subst ho'
   refine .inl ?_
   have hl:=run_loadS (P:=P) (w:=W) (k:=0) hs hn (hW _ hm.mem).blk.at0
   simp only [execOp,hop,hx,Sem.run_bind,hl,Result.andThen_ok,Sem.run_pure,hd,Option.map_some,Option.getD_some,hv]
 · exact rest k' hk o' ho' hw W hW
end
end Go.Sk
namespace Go.Sk
open Go
structure Sv (α:Type) where
 ad:Option Addr
 l:List α
 cap:Nat
abbrev Sv.val {α:Type} (s:Sv α):Value:=.slice s.ad s.l.length s.cap
structure StackV where
 at_:Cell
 bins:Sv Int
def StackV.cells (s:StackV):List Value:=[.int .i64 s.at_.x,.int .i64 s.at_.y,s.bins.val]
abbrev elStack:El StackV:=⟨StackV.cells,3,fun _=>rfl,fun x v hv=>by
 simp only [StackV.cells,List.mem_cons,List.not_mem_nil,or_false] at hv
 rcases hv with rfl|rfl|rfl<;>rfl⟩
structure ConfV where
 w:Int
 h:Int
 height:Int
 blocked:Sv Cell
 ports:Sv Cell
 robots:Sv Pose
 stacks:Sv StackV
 unit:Int
 accel:Int
 speed:Int
 turn:Int
 hoist:Int
 queue:Int
 resend:Int
 budget:Int
 back:Bool
def ConfV.cells (c:ConfV):List Value:=[.int .i64 c.w,.int .i64 c.h,.int .i64 c.height,c.blocked.val,c.ports.val,c.robots.val,c.stacks.val,.int .i64 c.unit,.int .i64 c.accel,.int .i64 c.speed,.int .i64 c.turn,.int .i64 c.hoist,.int .i64 c.queue,.int .i64 c.resend,.int .i64 c.budget,.bool c.back]
structure StackP where
 at_:Cell
 bins:List Int
structure ConfP where
 w:Int
 h:Int
 height:Int
 blocked:List Cell
 ports:List Cell
 robots:List Pose
 stacks:List StackP
 unit:Int
 accel:Int
 speed:Int
 turn:Int
 hoist:Int
 queue:Int
 resend:Int
 budget:Int
 back:Bool
def StackV.p (s:StackV):StackP:=⟨s.at_,s.bins.l⟩
def ConfV.p (c:ConfV):ConfP:=⟨c.w,c.h,c.height,c.blocked.l,c.ports.l,c.robots.l,c.stacks.l.map StackV.p,c.unit,c.accel,c.speed,c.turn,c.hoist,c.queue,c.resend,c.budget,c.back⟩
section
variable {P:Program} {ops:Array Oper} {rest:List Oper} {o:Oper} {a:Act} {w:World} {Q:Exit->Act->World->Prop}
theorem wl_eqlC {t yt:TypeId} {x y:Operand} {c d:Cell} (ht:eqTy P t cellKs=true) (ho:o.op=.binOp .eql t x y yt) (hw:Region.wanted o (yielded ops a.tmps)=true) (hx:a.eval x=.agg c.cells.toArray) (hy:a.eval y=.agg d.cells.toArray)
 (h:wpList P ops Q rest (a.put o.dst (.bool (decide (c=d)))) w):wpList P ops Q (o::rest) a w:=
 wl_eqlS ho hw hx hy ht c.ks d.ks (by rw [Cell.eq];exact h)
end
@[irreducible] def rTwo (a b:Res):Res where
  p w U:= ∃ S T,a.p w S/\b.p w T/\ ∀ k,U k ↔ S k\/T k
  loc:=by
   rintro w w' U ⟨S,T,h1,h2,h3⟩ he
   exact ⟨S,T,a.loc h1 fun k hk=>he k ((h3 k).2 (.inl hk)),b.loc h2 fun k hk=>he k ((h3 k).2 (.inr hk)),h3⟩
  lt:=by
   rintro w U ⟨S,T,h1,h2,h3⟩ k hk
   exact ((h3 k).1 hk).elim (a.lt h1 k) (b.lt h2 k)
def rAll:List Res->Res
 |[]=>{p:=fun _ U=> ∀ k,¬ U k,loc:=fun h _=>h,lt:=fun h k hk=>(h k hk).elim}
 |r::l=>rTwo r (rAll l)
theorem Has.two {w:World} {a b:Res}:Has w (rTwo a b) ↔ Has w a/\Has w b:=by
 unfold rTwo
 constructor
 · rintro ⟨U,S,T,h1,h2,_⟩;exact ⟨⟨S,h1⟩,⟨T,h2⟩⟩
 · rintro ⟨⟨S,h1⟩,⟨T,h2⟩⟩;exact ⟨fun k=>S k\/T k,S,T,h1,h2,fun k=>Iff.rfl⟩
theorem Has.all {w:World}: ∀ {l:List Res},Has w (rAll l) ↔ ∀ r∈l,Has w r
 |[]=>⟨fun _ r hr=>(by cases hr),fun _=>⟨fun _=>False,fun _ h=>h⟩⟩
 |r::l=>by
  unfold rAll
  rw [Has.two,Has.all (l:=l)]
  simp
theorem Know.part {w0 w:World} {F:Nat->Prop} {M L:List Res} {r r':Res} (h:Know w0 w F M L) (hr:r∈L) (hp: ∀ w S,r.p w S-> ∃ T,r'.p w T/\ ∀ b,T b->S b):Know w0 w F M (r'::L):=by
 obtain ⟨hm,U,h1,h2,h3⟩:=h
 refine ⟨hm,U,h1,h2,fun x hx=>?_⟩
 rcases List.mem_cons.1 hx with rfl|hx
 · obtain ⟨T,k1,k2⟩:=h3 r hr
   obtain ⟨T',j1,j2⟩:=hp w T k1
   exact ⟨T',j1,fun b hb=>k2 b (j2 b hb)⟩
 · exact h3 x hx
theorem rTwo_left {a b:Res} (w:World) (S:Nat->Prop) (h:(rTwo a b).p w S): ∃ T,a.p w T/\ ∀ k,T k->S k:=by
 unfold rTwo at h
 obtain ⟨S1,T,h1,h2,h3⟩:=h
 exact ⟨S1,h1,fun k hk=>(h3 k).2 (.inl hk)⟩
theorem rTwo_right {a b:Res} (w:World) (S:Nat->Prop) (h:(rTwo a b).p w S): ∃ T,b.p w T/\ ∀ k,T k->S k:=by
 unfold rTwo at h
 obtain ⟨S1,T,h1,h2,h3⟩:=h
 exact ⟨T,h2,fun k hk=>(h3 k).2 (.inr hk)⟩
theorem rAll_mem {r:Res}: ∀ {l:List Res},r∈l-> ∀ (w:World) (S:Nat->Prop),(rAll l).p w S-> ∃ T,r.p w T/\ ∀ k,T k->S k
 |x::l,hr,w,S,h=>by
  unfold rAll at h
  rcases List.mem_cons.1 hr with rfl|hr
  · exact rTwo_left w S h
  · obtain ⟨T,h1,h2⟩:=rTwo_right w S h
    obtain ⟨T',k1,k2⟩:=rAll_mem hr w T h1
    exact ⟨T',k1,fun k hk=>h2 k (k2 k hk)⟩
def rStacks (s:Sv StackV):Res:=rTwo (rRd elStack s.val s.l) (rAll (s.l.map fun x=>rRd elInt x.bins.val x.bins.l))
def rConf (c:ConfV):Res:=rAll [rRd elCell c.blocked.val c.blocked.l,rRd elCell c.ports.val c.ports.l,rRd elPose c.robots.val c.robots.l,rStacks c.stacks]
section
variable {w:World} {c:ConfV}
theorem Has.robots (h:Has w (rConf c)):Rd w elPose c.robots.val c.robots.l:=(Has.all.1 h _ (by simp)).rd
theorem Has.bins {s:Sv StackV} (h:Has w (rStacks s)): ∀ x∈s.l,Rd w elInt x.bins.val x.bins.l:=fun x hx=>(Has.all.1 (Has.two.1 h).2 _ (List.mem_map_of_mem hx)).rd
theorem Know.conf {w0:World} {F:Nat->Prop} {M L:List Res} (h:Know w0 w F M L) (hr:rConf c∈L):
 Know w0 w F M (rRd elCell c.blocked.val c.blocked.l::rRd elCell c.ports.val c.ports.l::rRd elPose c.robots.val c.robots.l::rRd elStack c.stacks.val c.stacks.l::rStacks c.stacks::L):=by
 have h1:Know w0 w F M (rStacks c.stacks::L):=h.part hr (rAll_mem (by simp))
 have h2:Know w0 w F M (rRd elStack c.stacks.val c.stacks.l::rStacks c.stacks::L):=h1.part List.mem_cons_self fun w S h=>rTwo_left w S h
 have h3:=h2.part (r:=rConf c) (r':=rRd elPose c.robots.val c.robots.l) (by simp [hr]) (rAll_mem (by simp))
 have h4:=h3.part (r:=rConf c) (r':=rRd elCell c.ports.val c.ports.l) (by simp [hr]) (rAll_mem (by simp))
 exact h4.part (r:=rConf c) (r':=rRd elCell c.blocked.val c.blocked.l) (by simp [hr]) (rAll_mem (by simp))
theorem Know.binsOf {w0:World} {F:Nat->Prop} {M L:List Res} {s:Sv StackV} {x:StackV} (h:Know w0 w F M L) (hr:rStacks s∈L) (hx:x∈s.l):Know w0 w F M (rRd elInt x.bins.val x.bins.l::L):=
 h.part hr fun w S hs=>by
  obtain ⟨T,h1,h2⟩:=rTwo_right w S hs
  obtain ⟨T',k1,k2⟩:=rAll_mem (List.mem_map_of_mem (f:=fun x:StackV=>rRd elInt x.bins.val x.bins.l) hx) w T h1
  exact ⟨T',k1,fun k hk=>h2 k (k2 k hk)⟩
end
def Pose.second (p:Pose):Cell:=if p.down then ⟨p.at_.x,RowKit.wrap64 (p.at_.y+1)⟩ else ⟨RowKit.wrap64 (p.at_.x+1),p.at_.y⟩
def Pose.both (p:Pose):List Cell:=[p.at_,p.second]
def inB (c:ConfP) (x:Cell):Bool:=decide (0<=x.x) && decide (0<=x.y) && decide (x.x<c.w) && decide (x.y<c.h)
def openB (c:ConfP) (x:Cell):Bool:=inB c x && decide (c.blocked.count x=0)
def east (x:Cell):Cell:=⟨RowKit.wrap64 (x.x+1),x.y⟩
def south (x:Cell):Cell:=⟨x.x,RowKit.wrap64 (x.y+1)⟩
def besideB (c:ConfP) (x:Cell):Bool:=openB c (east x)||openB c (south x)
def homeB (c:ConfP) (x:Cell):Bool:=c.robots.any fun p=>decide (0<p.both.count x)
def portOf (c:ConfP) (x:Cell):Int:=if x∈c.ports then (c.ports.idxOf x:Int) else -1
def stackedB (c:ConfP) (x:Cell):Bool:=openB c x && decide (portOf c x<0) && !homeB c x && besideB c x
def fitsB (c:ConfP) (p:Pose):Bool:=openB c p.at_ && openB c p.second
def within (v a b:Int):Bool:=decide (a<=v) && decide (v<=b)
def numsB (c:ConfP):Bool:=within c.w 1 16 && within c.h 1 16 && within c.height 1 8 && within c.unit 1 1000 && within c.accel 1 1000 && within c.speed 1 1000 && within c.turn 1 1000 && within c.hoist 1 1000 && within c.resend 1 1000 && within c.queue 1 16 && within c.budget 1 1048576
def homes (c:ConfP):List Cell:=c.robots.flatMap Pose.both
def allBins (c:ConfP):List Int:=c.stacks.flatMap (·.bins)
structure MayP (c:ConfP):Prop where
 nums:numsB c=true
 ports8:c.ports.length<=8
 robots8:c.robots.length<=8
 inside: ∀ x∈c.blocked++c.ports,inB c x=true
 apart:(c.blocked++c.ports).Nodup
 beside: ∀ x∈c.ports,besideB c x=true
 fits: ∀ p∈c.robots,fitsB c p=true
 homes1:(homes c).Nodup
 clear: ∀ x∈homes c,x ∉ c.ports
 stacked: ∀ s∈c.stacks,stackedB c s.at_=true/\(s.bins.length:Int)<=c.height
 stacks1:(c.stacks.map (·.at_)).Nodup
 bins: ∀ b∈allBins c,within b 1 1000000000=true
 bins1:(allBins c).Nodup
 bins512:(allBins c).length<=512
theorem inB_iff {c:ConfP} {x:Cell}:inB c x=true ↔ 0<=x.x/\0<=x.y/\x.x<c.w/\x.y<c.h:=by simp [inB,and_assoc]
theorem inB_not {c:ConfP} {x:Cell} (h: ¬ (0<=x.x/\0<=x.y/\x.x<c.w/\x.y<c.h)):inB c x=false:=by
 rw [Bool.eq_false_iff];exact fun h'=>h (inB_iff.1 h')
open Classical in
noncomputable def mayB (c:ConfP):Bool:=decide (MayP c)
theorem mayB_true {c:ConfP}:mayB c=true ↔ MayP c:=by simp [mayB]
theorem mayB_false {c:ConfP} (h: ¬ MayP c):mayB c=false:=by simp [mayB,h]
end Go.Sk
namespace Go.Sk
open Go
theorem nodup_lt: ∀ (n:Nat) (l:List Nat),l.Nodup->(∀ x∈l,x<n)->l.length<=n
 |0,l,_,h=>by
  cases l with
  |nil=>simp
  |cons x l=>exact absurd (h x (by simp)) (by omega)
 |n+1,l,hn,h=>by
  by_cases hm:n∈l
  · have h1:=nodup_lt n (l.erase n) (hn.erase n) fun x hx=>by
     have:=h x (List.mem_of_mem_erase hx)
     have hne:x≠n:=fun e=>by subst e;exact (hn.not_mem_erase) hx
     omega
    rw [List.length_erase_of_mem hm] at h1
    omega
  · have h1:=nodup_lt n l hn fun x hx=>by
     have:=h x hx
     have hne:x≠n:=fun e=>by subst e;exact hm hx
     omega
    omega
def numOf (c:ConfP) (x:Cell):Int:=x.y*c.w+x.x
theorem numOf_bd {c:ConfP} {x:Cell} (hi:inB c x=true):0<=numOf c x/\numOf c x<c.w*c.h:=by
 obtain ⟨h1,h2,h3,h4⟩:=inB_iff.1 hi
 unfold numOf
 have a:0<=x.y*c.w:=Int.mul_nonneg h2 (by omega)
 have b:(x.y+1)*c.w<=c.h*c.w:=Int.mul_le_mul_of_nonneg_right (by omega) (by omega)
 rw [Int.add_mul,Int.one_mul] at b
 rw [Int.mul_comm c.w c.h]
 omega
theorem numOf_inj {c:ConfP} {x y:Cell} (hx:inB c x=true) (hy:inB c y=true) (h:numOf c x=numOf c y):x=y:=by
 obtain ⟨h1,h2,h3,h4⟩:=inB_iff.1 hx
 obtain ⟨k1,k2,k3,k4⟩:=inB_iff.1 hy
 unfold numOf at h
 have e1:(x.y*c.w+x.x) / c.w=x.y:=by rw [Int.add_comm,Int.add_mul_ediv_right _ _ (by omega),Int.ediv_eq_zero_of_lt h1 h3];omega
 have e2:(y.y*c.w+y.x) / c.w=y.y:=by rw [Int.add_comm,Int.add_mul_ediv_right _ _ (by omega),Int.ediv_eq_zero_of_lt k1 k3];omega
 have ey:x.y=y.y:=by rw [<-e1,h,e2]
 rw [ey] at h
 have ex:x.x=y.x:=by omega
 obtain ⟨_,_⟩:=x;obtain ⟨_,_⟩:=y;simp at ex ey;rw [ex,ey]
theorem cells_le {c:ConfP} {l:List Cell} (hn:l.Nodup) (hi: ∀ x∈l,inB c x=true):l.length<=(c.w*c.h).toNat:=by
 have h1:=nodup_lt (c.w*c.h).toNat (l.map fun x=>(numOf c x).toNat) (by
  rw [List.nodup_iff_pairwise_ne,List.pairwise_map]
  refine List.Pairwise.imp_of_mem ?_ (List.nodup_iff_pairwise_ne.1 hn)
  intro a b ha hb hne he
  have:=numOf_bd (hi a ha)
  have:=numOf_bd (hi b hb)
  exact hne (numOf_inj (hi a ha) (hi b hb) (by omega))) (by
  intro x hx
  obtain ⟨y,hy,rfl⟩:=List.mem_map.1 hx
  have:=numOf_bd (hi y hy)
  omega)
 simpa using h1
theorem within_iff {v a b:Int}:within v a b=true ↔ a<=v/\v<=b:=by simp [within]
structure Nums (c:ConfP):Prop where
 w:1<=c.w/\c.w<=16
 h:1<=c.h/\c.h<=16
 height:1<=c.height/\c.height<=8
 unit:1<=c.unit/\c.unit<=1000
 accel:1<=c.accel/\c.accel<=1000
 speed:1<=c.speed/\c.speed<=1000
 turn:1<=c.turn/\c.turn<=1000
 hoist:1<=c.hoist/\c.hoist<=1000
 resend:1<=c.resend/\c.resend<=1000
 queue:1<=c.queue/\c.queue<=16
 budget:1<=c.budget/\c.budget<=1048576
theorem nums_iff {c:ConfP}:numsB c=true ↔ Nums c:=by
 unfold numsB
 simp only [Bool.and_eq_true,within_iff]
 constructor
 · rintro ⟨⟨⟨⟨⟨⟨⟨⟨⟨⟨h1,h2⟩,h3⟩,h4⟩,h5⟩,h6⟩,h7⟩,h8⟩,h9⟩,h10⟩,h11⟩
   exact ⟨h1,h2,h3,h4,h5,h6,h7,h8,h9,h10,h11⟩
 · rintro ⟨h1,h2,h3,h4,h5,h6,h7,h8,h9,h10,h11⟩
   exact ⟨⟨⟨⟨⟨⟨⟨⟨⟨⟨h1,h2⟩,h3⟩,h4⟩,h5⟩,h6⟩,h7⟩,h8⟩,h9⟩,h10⟩,h11⟩
theorem Nums.area {c:ConfP} (h:Nums c):1<=c.w*c.h/\c.w*c.h<=256:=by
 have h1:=h.w
 have h2:=h.h
 constructor
 · have:=Int.mul_le_mul h1.1 h2.1 (by omega) (by omega);omega
 · have:=Int.mul_le_mul h1.2 h2.2 (by omega) (by omega);omega
theorem cells_256 {c:ConfP} (hc:Nums c) {l:List Cell} (hn:l.Nodup) (hi: ∀ x∈l,inB c x=true):l.length<=256:=by
 have:=cells_le hn hi
 have:=hc.area
 omega
structure BinsP (c:ConfP):Prop where
 stacked: ∀ s∈c.stacks,stackedB c s.at_=true/\(s.bins.length:Int)<=c.height
 stacks1:(c.stacks.map (·.at_)).Nodup
 bins: ∀ b∈allBins c,within b 1 1000000000=true
 bins1:(allBins c).Nodup
 bins512:(allBins c).length<=512
open Classical in
noncomputable def binsB (c:ConfP):Bool:=decide (BinsP c)
theorem binsB_true {c:ConfP}:binsB c=true ↔ BinsP c:=by simp [binsB]
theorem binsB_false {c:ConfP} (h: ¬ BinsP c):binsB c=false:=by simp [binsB,h]
structure PreP (c:ConfP):Prop where
 nums:numsB c=true
 ports8:c.ports.length<=8
 robots8:c.robots.length<=8
 inside: ∀ x∈c.blocked++c.ports,inB c x=true
 apart:(c.blocked++c.ports).Nodup
 beside: ∀ x∈c.ports,besideB c x=true
 fits: ∀ p∈c.robots,fitsB c p=true
 homes1:(homes c).Nodup
 clear: ∀ x∈homes c,x ∉ c.ports
theorem may_iff {c:ConfP}:MayP c ↔ PreP c/\BinsP c:=by
 constructor
 · rintro ⟨h1,h2,h3,h4,h5,h6,h7,h8,h9,h10,h11,h12,h13,h14⟩
   exact ⟨⟨h1,h2,h3,h4,h5,h6,h7,h8,h9⟩,⟨h10,h11,h12,h13,h14⟩⟩
 · rintro ⟨⟨h1,h2,h3,h4,h5,h6,h7,h8,h9⟩,⟨h10,h11,h12,h13,h14⟩⟩
   exact ⟨h1,h2,h3,h4,h5,h6,h7,h8,h9,h10,h11,h12,h13,h14⟩
theorem mayB_pre {c:ConfP} (h:PreP c):mayB c=binsB c:=by
 by_cases hb:BinsP c
 · rw [binsB_true.2 hb,mayB_true.2 (may_iff.2 ⟨h,hb⟩)]
 · rw [binsB_false hb,mayB_false fun hm=>hb (may_iff.1 hm).2]
theorem mayB_not {c:ConfP} (h: ¬ PreP c):mayB c=false:=mayB_false fun hm=>h (may_iff.1 hm).1
theorem PreP.blocked256 {c:ConfP} (h:PreP c):c.blocked.length<=256:=
 cells_256 (nums_iff.1 h.nums) (List.nodup_append.1 h.apart).1 fun x hx=>h.inside x (by simp [hx])
theorem nodup_of_count {l:List Cell} (h: ∀ x∈l,l.count x<=1):l.Nodup:=List.nodup_iff_count.2 fun x=>by
 by_cases hx:x∈l
 · exact h x hx
 · rw [List.count_eq_zero_of_not_mem hx];omega
theorem home_iff {c:ConfP} {x:Cell}:homeB c x=true ↔ x∈homes c:=by
 unfold homeB homes
 rw [List.any_eq_true]
 simp only [decide_eq_true_eq,List.count_pos_iff,List.mem_flatMap]
theorem pre_of {c:ConfP} (h1:numsB c=true) (h2:c.ports.length<=8) (h3:c.robots.length<=8)
 (h4: ∀ x∈c.blocked,inB c x=true/\c.blocked.count x<=1/\c.ports.count x=0)
 (h5: ∀ x∈c.ports,inB c x=true/\c.ports.count x<=1/\homeB c x=false/\besideB c x=true)
 (h6: ∀ p∈c.robots,fitsB c p=true) (h7: ∀ x∈homes c,(homes c).count x<=1):PreP c:=by
 refine ⟨h1,h2,h3,?_,?_,fun x hx=>(h5 x hx).2.2.2,h6,nodup_of_count h7,?_⟩
 · intro x hx
   rcases List.mem_append.1 hx with hx|hx
   · exact (h4 x hx).1
   · exact (h5 x hx).1
 · rw [List.nodup_append]
   refine ⟨nodup_of_count fun x hx=>(h4 x hx).2.1,nodup_of_count fun x hx=>(h5 x hx).2.1,?_⟩
   intro a ha b hb e
   subst e
   have:=(h4 a ha).2.2
   have:=List.count_pos_iff.2 hb
   omega
 · intro x hx hp
   have:=(h5 x hp).2.2.1
   rw [home_iff.2 hx] at this
   cases this
theorem PreP.of {c:ConfP} (h:PreP c):
 (∀ x∈c.blocked,inB c x=true/\c.blocked.count x<=1/\c.ports.count x=0)/\(∀ x∈c.ports,inB c x=true/\c.ports.count x<=1/\homeB c x=false/\besideB c x=true)/\(∀ x∈homes c,(homes c).count x<=1):=by
 obtain ⟨a1,a2,a3⟩:=List.nodup_append.1 h.apart
 refine ⟨fun x hx=>⟨h.inside x (by simp [hx]),List.nodup_iff_count.1 a1 x,List.count_eq_zero_of_not_mem fun hp=>a3 x hx x hp rfl⟩,
  fun x hx=>⟨h.inside x (by simp [hx]),List.nodup_iff_count.1 a2 x,?_,h.beside x hx⟩,fun x _=>List.nodup_iff_count.1 h.homes1 x⟩
 rw [Bool.eq_false_iff]
 exact fun hh=>h.clear x (home_iff.1 hh) hx
end Go.Sk
namespace Go.Sk
open Go
def inW (w h:Int) (x:Cell):Bool:=decide (0<=x.x) && decide (0<=x.y) && decide (x.x<w) && decide (x.y<h)
theorem inW_iff {w h:Int} {x:Cell}:inW w h x=true ↔ 0<=x.x/\0<=x.y/\x.x<w/\x.y<h:=by simp [inW,and_assoc]
def cellAt (w:Int) (n:Nat):Cell:=⟨(n:Int) % w,(n:Int) / w⟩
theorem cellAt_in {w h:Int} {A n:Nat} (hw:1<=w) (hA:w*h=A) (hn:n<A):inW w h (cellAt w n)=true:=by
 rw [inW_iff]
 have h1:=Int.emod_nonneg (n:Int) (show w≠0 by omega)
 have h2:=Int.emod_lt_of_pos (n:Int) (show 0<w by omega)
 have h3:0<=(n:Int) / w:=Int.ediv_nonneg (by omega) (by omega)
 have h4:(n:Int) / w<h:=Int.ediv_lt_of_lt_mul (by omega) (by rw [Int.mul_comm,hA];omega)
 exact ⟨h1,h3,h2,h4⟩
theorem cellAt_num {w:Int} (hw:1<=w) (n:Nat):(cellAt w n).y*w+(cellAt w n).x=n:=by
 show (n:Int) / w*w+(n:Int) % w=n
 rw [Int.mul_comm];exact Int.mul_ediv_add_emod _ _
theorem cellAt_of {w h:Int} {x:Cell} {m:Nat} (hi:inW w h x=true) (hm:x.y*w+x.x=m):cellAt w m=x:=by
 obtain ⟨h1,h2,h3,h4⟩:=inW_iff.1 hi
 unfold cellAt
 rw [<-hm]
 have e1:(x.y*w+x.x) / w=x.y:=by rw [Int.add_comm,Int.add_mul_ediv_right _ _ (by omega),Int.ediv_eq_zero_of_lt h1 h3];omega
 have e2:(x.y*w+x.x) % w=x.x:=by rw [Int.add_comm,Int.add_mul_emod_self_right,Int.emod_eq_of_lt h1 h3]
 rw [e1,e2]
theorem num_lt {w h:Int} {A m:Nat} {x:Cell} (hA:w*h=A) (hi:inW w h x=true) (hm:x.y*w+x.x=m):m<A:=by
 obtain ⟨h1,h2,h3,h4⟩:=inW_iff.1 hi
 have b:(x.y+1)*w<=h*w:=Int.mul_le_mul_of_nonneg_right (by omega) (by omega)
 rw [Int.add_mul,Int.one_mul,Int.mul_comm h w,hA] at b
 omega
def gridL {α:Type} (A:Nat) (w:Int) (f:Cell->α):List α:=(List.range A).map fun n=>f (cellAt w n)
section
variable {α:Type} {A:Nat} {w h:Int} {f g:Cell->α}
theorem gridL_len:(gridL A w f).length=A:=by simp [gridL]
theorem gridL_get {x:Cell} {m:Nat} (hA:w*h=A) (hi:inW w h x=true) (hm:x.y*w+x.x=m):(gridL A w f)[m]?=some (f x):=by
 have:=num_lt hA hi hm
 simp [gridL,this,cellAt_of hi hm]
theorem gridL_at {n:Nat} (hn:n<A):(gridL A w f)[n]?=some (f (cellAt w n)):=by simp [gridL,hn]
theorem gridL_congr (hw:1<=w) (hA:w*h=A) (he: ∀ y,inW w h y=true->f y=g y):gridL A w f=gridL A w g:=by
 unfold gridL
 apply List.map_congr_left
 intro n hn
 exact he _ (cellAt_in hw hA (List.mem_range.1 hn))
theorem gridL_set {x:Cell} {m:Nat} {v:α} (hw:1<=w) (hA:w*h=A) (hi:inW w h x=true) (hm:x.y*w+x.x=m):(gridL A w f).set m v=gridL A w (fun y=>if y=x then v else f y):=by
 apply List.ext_getElem?
 intro n
 rw [List.getElem?_set]
 by_cases hn:n<A
 · by_cases e:m=n
   · subst e
     rw [if_pos rfl,if_pos (by rw [gridL_len];exact hn),gridL_at hn,if_pos (cellAt_of hi hm)]
   · rw [if_neg e,gridL_at hn,gridL_at hn,if_neg]
     intro hc
     apply e
     have:=cellAt_num hw n
     rw [hc] at this
     omega
 · have e1:(gridL A w f)[n]?=none:=List.getElem?_eq_none (by rw [gridL_len];omega)
   have e2:(gridL A w (fun y=>if y=x then v else f y))[n]?=none:=List.getElem?_eq_none (by rw [gridL_len];omega)
   rw [e1,e2]
   have:=num_lt hA hi hm
   rw [gridL_len,if_neg (by omega)]
theorem gridL_mem {a:α} (ha:a∈gridL A w f): ∃ n,n<A/\a=f (cellAt w n):=by
 obtain ⟨n,hn,rfl⟩:=List.mem_map.1 ha
 exact ⟨n,List.mem_range.1 hn,rfl⟩
theorem gridL_const (v:α):List.replicate A v=gridL A w fun _=>v:=by
 unfold gridL
 rw [List.map_const',List.length_range]
end
def kindTo (B:Nat) (l:List Cell) (x:Cell):Int:=if x∈l then (if l.idxOf x<B then -1 else (l.idxOf x:Int) - B+1) else 0
theorem idx_snoc {l:List Cell} {x y:Cell} (hx:x ∉ l):(l++[x]).idxOf y=if y∈l then l.idxOf y else if y=x then l.length else l.length+1:=by
 rw [List.idxOf_append]
 split
 · rfl
 · by_cases e:y=x
   · subst e;simp
   · rw [if_neg e,List.idxOf_cons,show (x == y)=false from beq_eq_false_iff_ne.2 fun h=>e h.symm];simp;omega
theorem kindTo_snoc (B:Nat) {l:List Cell} {x:Cell} (hx:x ∉ l) (y:Cell):kindTo B (l++[x]) y=if y=x then (if l.length<B then -1 else (l.length:Int) - B+1) else kindTo B l y:=by
 unfold kindTo
 rw [idx_snoc hx]
 by_cases e:y=x
 · subst e
   simp [hx]
 · by_cases hy:y∈l
   · simp [e,hy]
   · simp [e,hy]
def kindL (c:ConfP) (x:Cell):Int:=if x∈c.blocked then -1 else if x∈c.ports then (c.ports.idxOf x:Int)+1 else 0
theorem kindTo_all (c:ConfP) (x:Cell):kindTo c.blocked.length (c.blocked++c.ports) x=kindL c x:=by
 unfold kindTo kindL
 rw [List.idxOf_append]
 by_cases hb:x∈c.blocked
 · have:=List.idxOf_lt_length_iff.2 hb
   simp [hb,this]
 · by_cases hp:x∈c.ports
   · simp only [List.mem_append,hb,hp,or_true,if_true,if_false]
     rw [if_neg (by omega)]
     omega
   · simp [hb,hp]
theorem kindL_bd {c:ConfP} (h8:c.ports.length<=8) (x:Cell): -1<=kindL c x/\kindL c x<=8:=by
 unfold kindL
 split
 · omega
 · split
   · rename_i hp
     have:=List.idxOf_lt_length_iff.2 hp
     omega
   · omega
structure LaidP (c:ConfP):Prop where
 w:within c.w 1 16=true
 h:within c.h 1 16=true
 ports8:c.ports.length<=8
 blocked:(c.blocked.length:Int)<=c.w*c.h
 inside: ∀ x∈c.blocked++c.ports,inB c x=true
 apart:(c.blocked++c.ports).Nodup
theorem PreP.laid {c:ConfP} (h:PreP c):LaidP c:=by
 have hn:=nums_iff.1 h.nums
 refine ⟨within_iff.2 hn.w,within_iff.2 hn.h,h.ports8,?_,h.inside,h.apart⟩
 have:=cells_le (List.nodup_append.1 h.apart).1 fun x hx=>h.inside x (by simp [hx])
 have:=hn.area
 omega
end Go.Sk
namespace Go.Sk
open Go
theorem Know.focus {w0 w:World} {F:Nat->Prop} {R M L:List Res} (h:Know w0 w F (R++M) L): ∃ S,Know w w S R L/\ ∀ w' R',Turns R' w w' S->Know w0 w' F (R'++M) L:=by
 obtain ⟨hm,U,h1,h2,h3⟩:=h
 obtain ⟨S,V,k1,k2,k3,k4⟩:=Sep.append.1 h1
 refine ⟨S,⟨Mod.refl _ _,S,k1,fun b hb=>.inl hb,fun r hr=>?_⟩,fun w' R' ht=>?_⟩
 · obtain ⟨T,i1,i2⟩:=h3 r hr
   exact ⟨T,i1,fun b hb hs=>i2 b hb ((k4 b).2 (.inl hs))⟩
 · obtain ⟨m,S',j1,j2⟩:=ht
   refine ⟨hm.drop m fun b hb=>h2 b ((k4 b).2 (.inl hb)),fun b=>S' b\/V b,(Sep.append (A:=R') (B:=M)).2 ⟨S',V,j1,k2.mod m fun b hb hs=>k3 b hs hb,?_,fun b=>Iff.rfl⟩,?_,fun r hr=>?_⟩
   · intro b hb hv
     rcases j2 b hb with h|h
     · exact k3 b h hv
     · have:=k2.lt b hv;omega
   · rintro b (hb|hb)
     · rcases j2 b hb with h|h
       · exact h2 b ((k4 b).2 (.inl h))
       · right;have:=hm.size;omega
     · exact h2 b ((k4 b).2 (.inr hb))
   · obtain ⟨T,i1,i2⟩:=h3 r hr
     refine ⟨T,r.mod i1 m fun b hb hs=>i2 b hb ((k4 b).2 (.inl hs)),?_⟩
     rintro b hb (hs|hv)
     · rcases j2 b hs with h|h
       · exact i2 b hb ((k4 b).2 (.inl h))
       · have:=r.lt i1 b hb;omega
     · exact i2 b hb ((k4 b).2 (.inr hv))
theorem Turns.nil {w w':World} {S:Nat->Prop} (m:Mod S w w'):Turns [] w w' S:=⟨m,fun _=>False,fun _ h=>h,fun _ h=>h.elim⟩
def kind1 (c:ConfP) (n:Nat) (x:Cell):Int:=if x.y*c.w+x.x<n/\kindL c x=0/\besideB c x=false then -2 else kindL c x
def kind2 (c:ConfP) (H:List Cell) (x:Cell):Int:=if x∈H then -2 else if kindL c x=0/\besideB c x=false then -2 else kindL c x
theorem kindL_open {c:ConfP} {x:Cell}:kindL c x= -1 ↔ x∈c.blocked:=by
 unfold kindL
 by_cases hb:x∈c.blocked
 · simp [hb]
 · by_cases hp:x∈c.ports
   · simp only [hb,hp,if_true,if_false,iff_false];omega
   · simp [hb,hp]
theorem kindL_port {c:ConfP} {x:Cell} (hb:x ∉ c.blocked):0<kindL c x ↔ x∈c.ports:=by
 unfold kindL
 by_cases hp:x∈c.ports
 · simp only [hb,hp,if_true,if_false,iff_true];omega
 · simp [hb,hp]
theorem kindL_nat {c:ConfP} (x:Cell): -1<=kindL c x:=by
 unfold kindL
 split
 · omega
 · split<;>omega
theorem kind1_open {c:ConfP} {n:Nat} {x:Cell}:kind1 c n x= -1 ↔ x∈c.blocked:=by
 unfold kind1
 split
 · rename_i h
   have:=h.2.1
   rw [<-kindL_open,this]
   omega
 · exact kindL_open
theorem kind2_open {c:ConfP} {H:List Cell} {x:Cell} (hH: ∀ y∈H,y ∉ c.blocked):kind2 c H x= -1 ↔ x∈c.blocked:=by
 unfold kind2
 split
 · rename_i h
   have:=hH x h
   simp [this]
 · split
   · rename_i h
     rw [<-kindL_open,h.1]
     omega
   · exact kindL_open
theorem openB_iff {c:ConfP} {x:Cell}:openB c x=true ↔ inB c x=true/\x ∉ c.blocked:=by
 unfold openB
 rw [Bool.and_eq_true,decide_eq_true_eq,List.count_eq_zero]
theorem kind1_last {c:ConfP} {A:Nat} {x:Cell} (hA:c.w*c.h=A) (hi:inB c x=true):kind1 c A x=kind2 c [] x:=by
 unfold kind1 kind2
 have h1:=numOf_bd hi
 unfold numOf at h1
 rw [hA] at h1
 by_cases e:kindL c x=0/\besideB c x=false
 · rw [if_pos ⟨h1.2,e⟩,if_neg (by simp),if_pos e]
 · rw [if_neg fun h=>e h.2,if_neg (by simp),if_neg e]
structure RobP (c:ConfP):Prop where
 robots8:c.robots.length<=8
 beside: ∀ x∈c.ports,besideB c x=true
 fits: ∀ p∈c.robots,fitsB c p=true
 homes1:(homes c).Nodup
 clear: ∀ x∈homes c,x ∉ c.ports
theorem kind2_bd {c:ConfP} (h8:c.ports.length<=8) (H:List Cell) (x:Cell): -2<=kind2 c H x/\kind2 c H x<=8:=by
 have:=kindL_bd h8 x
 unfold kind2
 split
 · omega
 · split<;>omega
theorem kind1_bd {c:ConfP} (h8:c.ports.length<=8) (n:Nat) (x:Cell): -2<=kind1 c n x/\kind1 c n x<=8:=by
 have:=kindL_bd h8 x
 unfold kind1
 split<;>omega
theorem kind1_succ {c:ConfP} (n:Nat) (y:Cell):kind1 c (n+1) y=if y.y*c.w+y.x=n/\kindL c y=0/\besideB c y=false then -2 else kind1 c n y:=by
 unfold kind1
 by_cases e:kindL c y=0/\besideB c y=false
 · by_cases e1:y.y*c.w+y.x<n
   · rw [if_pos ⟨by omega,e⟩,if_neg (by omega),if_pos ⟨e1,e⟩]
   · by_cases e2:y.y*c.w+y.x=n
     · rw [if_pos ⟨by omega,e⟩,if_pos ⟨e2,e⟩]
     · rw [if_neg (by omega),if_neg (by omega),if_neg (by omega)]
 · rw [if_neg fun h=>e h.2,if_neg fun h=>e h.2,if_neg fun h=>e h.2]
theorem fits_open {c:ConfP} {p:Pose} (h:fitsB c p=true): ∀ y∈p.both,openB c y=true:=by
 unfold fitsB at h
 rw [Bool.and_eq_true] at h
 intro y hy
 simp only [Pose.both,List.mem_cons,List.not_mem_nil,or_false] at hy
 rcases hy with rfl|rfl
 · exact h.1
 · exact h.2
theorem fits_beside {c:ConfP} {x:Cell} {d:Bool} (h:fitsB c ⟨x,d⟩=true):besideB c x=true:=by
 have h2:=fits_open h _ (show Pose.second ⟨x,d⟩∈_ by simp [Pose.both])
 unfold besideB
 rw [Bool.or_eq_true]
 cases d
 · exact .inl h2
 · exact .inr h2
theorem not_beside {c:ConfP} {x:Cell} (ho:openB c x=true) (h1:fitsB c ⟨x,false⟩=false) (h2:fitsB c ⟨x,true⟩=false):besideB c x=false:=by
 unfold fitsB at h1 h2
 have h1:(openB c x && openB c (east x))=false:=h1
 have h2:(openB c x && openB c (south x))=false:=h2
 rw [ho,Bool.true_and] at h1 h2
 unfold besideB
 rw [h1,h2]
 rfl
theorem num_inj {c:ConfP} {x y:Cell} (hx:inB c x=true) (hy:inB c y=true) (h:x.y*c.w+x.x=y.y*c.w+y.x):x=y:=numOf_inj hx hy h
def hTo (l:List Pose) (k:Nat):List Cell:=(l.take k).flatMap Pose.both
theorem hTo_succ {l:List Pose} {k:Nat} {u:Pose} (h:l[k]?=some u):hTo l (k+1)=hTo l k++u.both:=by
 unfold hTo
 rw [List.take_add_one,h]
 simp
theorem hTo_open {c:ConfP} {l:List Pose} {k:Nat} (h: ∀ p∈l.take k,fitsB c p=true): ∀ y∈hTo l k,openB c y=true:=by
 intro y hy
 obtain ⟨p,hp,hy⟩:=List.mem_flatMap.1 hy
 exact fits_open (h p hp) y hy
theorem hTo_sub {l:List Pose} {k:Nat} {u:Pose} (h:l[k]?=some u) (i:Nat):(hTo l k++u.both.take i).Sublist (l.flatMap Pose.both):=by
 have h1:(hTo l k++u.both.take i).Sublist (hTo l (k+1)):=by
  rw [hTo_succ h]
  exact List.Sublist.append_left (List.take_sublist _ _) _
 refine h1.trans ?_
 have e:l.flatMap Pose.both=hTo l (k+1)++(l.drop (k+1)).flatMap Pose.both:=by
  unfold hTo
  rw [<-List.flatMap_append,List.take_append_drop]
 rw [e]
 exact List.sublist_append_left _ _
theorem kind2_pos {c:ConfP} {H:List Cell} {x:Cell} (hx:x ∉ H) (hb:x ∉ c.blocked):0<kind2 c H x ↔ x∈c.ports:=by
 unfold kind2
 rw [if_neg hx,<-kindL_port hb]
 split
 · rename_i h;rw [h.1];omega
 · rfl
theorem kind2_snoc {c:ConfP} {H:List Cell} (x y:Cell):kind2 c (H++[x]) y=if y=x then -2 else kind2 c H y:=by
 unfold kind2
 by_cases e:y=x
 · simp [e]
 · by_cases h:y∈H<;>simp [e,h]
theorem pre_iff {c:ConfP}:PreP c ↔ numsB c=true/\LaidP c/\RobP c:=by
 constructor
 · intro h
   exact ⟨h.nums,h.laid,⟨h.robots8,h.beside,h.fits,h.homes1,h.clear⟩⟩
 · rintro ⟨h1,h2,h3⟩
   exact ⟨h1,h2.ports8,h3.robots8,h2.inside,h2.apart,h3.beside,h3.fits,h3.homes1,h3.clear⟩
end Go.Sk
namespace Go.Sk
open Go Go.Maps
@[irreducible] def rSet (P:Program) (k e:TypeId) (b:Nat) (l:List Int):Res where
  p w S:=(∃ D:DataW Unit,w.ownsMap P k (plainElem P e) b l.length D/\Maps.size D=l.length/\ ∀ x,D.atKey (.int .i64 x) (.lit (.int .i64 0))=.lit (.int .i64 (if x∈l then 1 else 0))/\Maps.has D (.int .i64 x)=decide (x∈l))/\S=only b
  loc:=by
   rintro w w' S ⟨⟨D,⟨es,clock,h1,h2⟩,h3⟩,rfl⟩ he
   exact ⟨⟨D,⟨es,clock,(he b rfl).trans h1,h2⟩,h3⟩,rfl⟩
  lt:=by
   rintro w S ⟨⟨D,h,_⟩,rfl⟩ b' hb
   cases hb
   exact h.lt
theorem rSet_p {P:Program} {k e:TypeId} {b:Nat} {l:List Int} {w:World} {S:Nat->Prop}:(rSet P k e b l).p w S ↔ (∃ D:DataW Unit,w.ownsMap P k (plainElem P e) b l.length D/\Maps.size D=l.length/\ ∀ x,D.atKey (.int .i64 x) (.lit (.int .i64 0))=.lit (.int .i64 (if x∈l then 1 else 0))/\Maps.has D (.int .i64 x)=decide (x∈l))/\S=only b:=by
 unfold rSet;exact Iff.rfl
theorem wf64 {x:Int} (h: -9223372036854775808<=x/\x<=9223372036854775807):(Lit.int .i64 x).wf=true:=by
 simp [Lit.wf]
 exact h
section
variable {w0 w:World} {F:Nat->Prop} {M L:List Res} {P:Program} {ops:Array Oper} {rest:List Oper} {o:Oper} {a:Act} {Q:Exit->Act->World->Prop}
theorem wl_makeMapK {t:TypeId} (k e:TypeId) (hK:Know w0 w F M L) (ho:o.op=.makeMap t none) (hw:Region.wanted o (yielded ops a.tmps)=true)
 (h: ∀ w' b,Know w0 w' F (rSet P k e b []::M) L->wpList P ops Q rest (a.put o.dst (.map (some b))) w'):wpList P ops Q (o::rest) a w:=by
 refine wl_val hw (v:=.map (some w.heap.size)) (w':=w.alloc (.map #[] 0)) ?_ (h _ _ (hK.push1 ⟨Mod.alloc _ _,only w.heap.size,rSet_p.2 ⟨⟨.map [],World.ownsMap_made _ _ _ _,rfl,fun x=>⟨rfl,rfl⟩⟩,rfl⟩,fun b hb=>by cases hb;exact .inr (Nat.le_refl _)⟩))
 simp [execOp,ho,Instr.makeMap]
theorem wl_lookupK {t:TypeId} {m x:Operand} {b:Nat} {v:Int} {k e:TypeId} {l:List Int} {i:Nat} (r:Int) (hK:Know w0 w F M L) (ho:o.op=.lookup t m x false) (hw:Region.wanted o (yielded ops a.tmps)=true) (hm:a.eval m=.map (some b)) (hx:a.eval x=.int .i64 v)
 (ht:P.underlying t=some (.map k e)) (hk:P.underlying k=some (.int .i64)) (he:P.underlying e=some (.int .i64)) (hz: ∀ w,(zeroValue e).run P w=.ok (.int .i64 0) w) (hv: -9223372036854775808<=v/\v<=9223372036854775807)
 (hi:Ix M (rSet P k e b l) i:=by repeat (first|exact Ix.head|apply Ix.tail)) (hr:(if v∈l then 1 else 0)=r)
 (h:wpList P ops Q rest (a.put o.dst (.int .i64 r)) w):wpList P ops Q (o::rest) a w:=by
 obtain ⟨S,h1,_⟩:=hK.stepI hi
 obtain ⟨⟨D,h2,_,h4⟩,_⟩:=rSet_p.1 h1
 obtain ⟨c,hrun,hc,_⟩:=h2.lookup_int (int_keyed hk) ht he (hz w) (keyOf_int_mk hk (wf64 hv))
 rw [(h4 v).1] at hc
 have hc':c=if v∈l then 1 else 0:=by
  simp only [DataW.lit.injEq,Lit.int.injEq,true_and] at hc
  exact hc.symm
 rw [hr] at hc'
 subst hc'
 exact wl_val hw (w':=w) (by simp only [execOp,ho,hm,hx,Sem.run_bind,hrun,Result.andThen_ok,Sem.run_pure]) h
theorem wl_mapSetK {t:TypeId} {m x y:Operand} {b:Nat} {v:Int} {k e:TypeId} {l:List Int} {i:Nat} (hK:Know w0 w F M L) (ho:o.op=.mapUpdate t m x y) (hw:Region.wanted o (yielded ops a.tmps)=true) (hm:a.eval m=.map (some b)) (hx:a.eval x=.int .i64 v) (hy:a.eval y=.int .i64 1)
 (ht:P.underlying t=some (.map k e)) (hk:P.underlying k=some (.int .i64)) (he:P.underlying e=some (.int .i64)) (hv: -9223372036854775808<=v/\v<=9223372036854775807) (hl:l.length<maxLen) (hn: ¬ v∈l)
 (hi:Ix M (rSet P k e b l) i:=by repeat (first|exact Ix.head|apply Ix.tail))
 (h: ∀ w',Know w0 w' F (M.set i (rSet P k e b (l++[v]))) L->wpList P ops Q rest (a.put o.dst undef) w'):wpList P ops Q (o::rest) a w:=by
 obtain ⟨S,h1,h2⟩:=hK.stepI hi
 obtain ⟨⟨D,k2,k3,k4⟩,rfl⟩:=rSet_p.1 h1
 have hkey:=keyOf_int_mk (P:=P) hk (wf64 hv)
 have hone:(Lit.int IntKind.i64 1).wf=true:=by decide
 obtain ⟨w',hr,j1,j2⟩:=k2.update (int_keyed hk) ht hl hkey (plainElem_int (P:=P) he hone)
 have hkl:WideAt.IsKeyLit (Lit.int .i64 v):=trivial
 refine wl_unit hw (w':=w') (by simp only [execOp,ho,hm,hx,hy,Sem.run_bind,hr,Result.andThen_ok,Sem.run_pure]) (h w' (h2 w' _ ⟨Mod.of_grown j2 fun b' hb=>by cases hb;rfl,only b,rSet_p.2 ⟨⟨D.put (.int .i64 v) (.lit (.int .i64 1)),?_,?_,?_⟩,rfl⟩,fun _ hb=>.inl hb⟩))
 · rw [List.length_append];exact j1
 · rw [size_put (k2.tidy (int_keyed hk)),(k4 v).2]
   simp [hn,k3]
 · intro x
   by_cases e1:x=v
   · subst e1
     rw [atKey_put_same k2.isMap hkl,has_put_same k2.isMap hkl]
     simp
   · have hne:(Lit.int IntKind.i64 x)≠Lit.int .i64 v:=fun e=>e1 (by injection e)
     rw [atKey_put_other hne,has_put_other hne,(k4 x).1,(k4 x).2]
     simp [e1]
theorem wl_lenMapK {t:TypeId} {m:Operand} {b:Nat} {k e:TypeId} {l:List Int} {i:Nat} (hK:Know w0 w F M L) (ho:o.op=.call {callee:=.builtin .len,args:= #[m],argTypes:= #[t]}) (hw:Region.wanted o (yielded ops a.tmps)=true) (hm:a.eval m=.map (some b)) (ht:P.underlying t=some (.map k e))
 (hi:Ix M (rSet P k e b l) i:=by repeat (first|exact Ix.head|apply Ix.tail))
 (h:wpList P ops Q rest (a.put o.dst (.int .i64 (l.length:Nat))) w):wpList P ops Q (o::rest) a w:=by
 obtain ⟨S,h1,_⟩:=hK.stepI hi
 obtain ⟨⟨D,h2,h3,_⟩,_⟩:=rSet_p.1 h1
 refine wl_val hw (w':=w) (v:=.int .i64 (l.length:Nat)) ?_ h
 unfold execOp
 simp only [ho,resolve,invoke,builtin,Sem.run_bind,Sem.run_pure,Result.andThen_ok,List.map_toArray,List.map_cons,List.map_nil,hm,h2.len ht o.type,h3]
end
theorem run_mk {P:Program} {α:Type} {E:El α} {t e:TypeId} {zs:List Value} {bytes n:Nat} {k1 k2:IntKind} (z:α) (T:SliceTy P t e E.sz bytes zs) (hz:E.cells z=zs) (hn:bytes*n<=281474976710656) (h63:n<=maxLen) (W:World):
 (Instr.makeSlice t (.int k1 (n:Int)) (.int k2 (n:Int))).run P W=.ok (.slice (some ⟨W.heap.size,0,none⟩) n n) (W.alloc (.cells (flat E.cells (List.replicate n z)).toArray e)):=by
 obtain ⟨i,v,hi,hv,hzs,hsize,hby⟩:=T.ex
 have hlen:=T.len
 rw [<-hby] at hn
 have hb:(i.bytes:Int)*(n:Int)<=281474976710656:=by
  have:((i.bytes*n:Nat):Int)<=281474976710656:=by omega
  rwa [Int.natCast_mul] at this
 have hr:=run_make (P:=P) W t e i v T.und hi hv k1 k2 n n (by omega) (by omega) hb (by unfold maxLen at h63;omega)
 simp only [Int.toNat_natCast] at hr
 have hm:madeCells v.cells (n*i.size)=(flat E.cells (List.replicate n z)).toArray:=by
  rw [hzs]
  unfold madeCells
  apply Array.ext'
  simp only [Array.toList_map,Array.toList_range,List.size_toArray,hlen]
  have key: ∀ k,(List.range (k*E.sz)).map (fun j=>zs.toArray[j % E.sz]!)=(List.range k).flatMap fun _=>zs:=by
   intro k
   induction k with
   |zero=>simp
   |succ k ih=>
    rw [Nat.succ_mul,List.range_add,List.map_append,ih,List.range_succ,List.flatMap_append]
    congr 1
    rw [List.map_map]
    simp only [List.flatMap_cons,List.flatMap_nil,List.append_nil]
    apply List.ext_getElem?
    intro j
    rw [List.getElem?_map]
    by_cases hj:j<E.sz
    · rw [List.getElem?_range hj]
      simp only [Option.map_some,Function.comp]
      have:(k*E.sz+j) % E.sz=j:=by rw [Nat.add_comm,Nat.add_mul_mod_self_right,Nat.mod_eq_of_lt hj]
      rw [this,getElem!_pos zs.toArray j (by simp [hlen,hj])]
      rw [List.getElem?_eq_getElem (by omega)]
      simp
    · rw [List.getElem?_eq_none (by simp;omega),List.getElem?_eq_none (by omega)]
      rfl
  rw [hsize,key n,mk_cells,flat_replicate,hz]
 rw [hm] at hr
 exact hr
theorem made_turn {α:Type} (E:El α) (e:TypeId) (n:Nat) (z:α) (h63:n<=maxLen) (W:World):Turn (rOw e E (.slice (some ⟨W.heap.size,0,none⟩) n n) (List.replicate n z)) W (W.alloc (.cells (flat E.cells (List.replicate n z)).toArray e)) none':=
 Turn.own ((Blk.new W _ e).ow (by simp) h63) (Mod.alloc _ _) fun b hb=>by cases hb;exact Nat.le_refl _
theorem box_turn (cs:List Value) (T:TypeId) (W:World):Turn (rBlk W.heap.size cs T) W (W.alloc (.cells cs.toArray T)) none':=Turn.blk (Nat.le_refl _) (Blk.new W cs T) (Mod.alloc _ _)
theorem kind2_zero {c:ConfP} {x:Cell}:kind2 c (homes c) x=0 ↔ x ∉ homes c/\x ∉ c.blocked/\x ∉ c.ports/\besideB c x=true:=by
 have h0:kindL c x=0 ↔ x ∉ c.blocked/\x ∉ c.ports:=by
  unfold kindL
  by_cases hb:x∈c.blocked
  · simp [hb]
  · by_cases hp:x∈c.ports
    · simp only [hb,hp,if_true,if_false,not_true,and_false,iff_false];omega
    · simp [hb,hp]
 unfold kind2
 by_cases hh:x∈homes c
 · simp [hh]
 · rw [if_neg hh]
   by_cases e:kindL c x=0/\besideB c x=false
   · rw [if_pos e]
     constructor
     · intro h;omega
     · rintro ⟨_,_,_,h⟩;rw [e.2] at h;cases h
   · rw [if_neg e,h0]
     constructor
     · rintro ⟨h1,h2⟩
       refine ⟨hh,h1,h2,?_⟩
       cases hb:besideB c x
       · exact absurd ⟨h0.2 ⟨h1,h2⟩,hb⟩ e
       · rfl
     · rintro ⟨_,h1,h2,_⟩;exact ⟨h1,h2⟩
theorem portOf_neg {c:ConfP} {x:Cell}:portOf c x<0 ↔ x ∉ c.ports:=by
 unfold portOf
 by_cases hp:x∈c.ports
 · simp only [hp,if_true,not_true,iff_false];omega
 · simp [hp]
theorem stackedB_iff {c:ConfP} {x:Cell}:stackedB c x=true ↔ inB c x=true/\kind2 c (homes c) x=0:=by
 unfold stackedB
 rw [kind2_zero]
 simp only [Bool.and_eq_true,openB_iff,decide_eq_true_eq,portOf_neg,Bool.not_eq_true']
 constructor
 · rintro ⟨⟨⟨⟨h1,h2⟩,h3⟩,h4⟩,h5⟩
   exact ⟨h1,(fun h=>by rw [home_iff.2 h] at h4;cases h4),h2,h3,h5⟩
 · rintro ⟨h1,h2,h3,h4,h5⟩
   refine ⟨⟨⟨⟨h1,h3⟩,h4⟩,?_⟩,h5⟩
   rw [Bool.eq_false_iff]
   exact fun h=>h2 (home_iff.1 h)
end Go.Sk
namespace Go.Sk
open Go
theorem made_turn' {α:Type} (E:El α) (e:TypeId) (n:Nat) (z:α) (h63:n<=maxLen) (W:World) (b:Nat) (hb:W.heap.size=b):Turn (rOw e E (.slice (some ⟨b,0,none⟩) n n) (List.replicate n z)) W (W.alloc (.cells (flat E.cells (List.replicate n z)).toArray e)) none':=by
 subst hb;exact made_turn E e n z h63 W
theorem box_turn' (cs:List Value) (T:TypeId) (W:World) (b:Nat) (hb:W.heap.size=b):Turn (rBlk b cs T) W (W.alloc (.cells cs.toArray T)) none':=by
 subst hb;exact box_turn cs T W
@[irreducible] def rMany (rs:List Res):Res where
  p w S:=Sep w rs S
  loc:=fun h he=>Sep.loc h he
  lt:=fun h=>Sep.lt h
theorem rMany_p {rs:List Res} {w:World} {S:Nat->Prop}:(rMany rs).p w S ↔ Sep w rs S:=by unfold rMany;exact Iff.rfl
theorem Sep.one {w:World} {r:Res} {S:Nat->Prop} (h:r.p w S):Sep w [r] S:=⟨S,fun _=>False,h,fun _ h=>h,fun _ _ h=>h,fun b=>by simp⟩
theorem Sep.of_one {w:World} {r:Res} {S:Nat->Prop} (h:Sep w [r] S):r.p w S:=by
 obtain ⟨S',V,h1,h2,_,h4⟩:=h
 have:S'=S:=funext fun b=>propext ⟨fun hb=>(h4 b).2 (.inl hb),fun hb=>((h4 b).1 hb).resolve_right (h2 b)⟩
 exact this ▸ h1
theorem Sep.empty {r:Res} {w:World} {n:Nat} (h: ∃ S,r.p w S/\ ∀ b,¬ S b):Sep w (List.replicate n r) fun _=>False:=by
 obtain ⟨S,h1,h2⟩:=h
 induction n with
 |zero=>exact fun _ h=>h
 |succ n ih=>
  rw [List.replicate_succ]
  exact ⟨S,fun _=>False,h1,ih,fun _ _ h=>h,fun b=>by simp [h2 b]⟩
theorem Sep.set {w:World} {r':Res}: ∀ {rs:List Res} {i:Nat} {S S':Nat->Prop},Sep w rs S->r'.p w S'->(∀ b,S' b-> ¬ S b)-> ∃ U,Sep w (rs.set i r') U/\ ∀ b,U b->S b\/S' b
 |[],_,S,S',h,_,_=>⟨S,h,fun b hb=>.inl hb⟩
 |r::rs,0,S,S',⟨T,V,h1,h2,h3,h4⟩,hr,hd=>by
  refine ⟨fun b=>S' b\/V b,⟨S',V,hr,h2,fun b hb hv=>hd b hb ((h4 b).2 (.inr hv)),fun b=>Iff.rfl⟩,?_⟩
  rintro b (hb|hb)
  · exact .inr hb
  · exact .inl ((h4 b).2 (.inr hb))
 |r::rs,i+1,S,S',⟨T,V,h1,h2,h3,h4⟩,hr,hd=>by
  obtain ⟨U,k1,k2⟩:=Sep.set (i:=i) h2 hr fun b hb hv=>hd b hb ((h4 b).2 (.inr hv))
  refine ⟨fun b=>T b\/U b,⟨T,U,h1,k1,fun b hb hu=>?_,fun b=>Iff.rfl⟩,?_⟩
  · rcases k2 b hu with h|h
    · exact h3 b hb h
    · exact hd b h ((h4 b).2 (.inl hb))
  · rintro b (hb|hb)
    · exact .inl ((h4 b).2 (.inl hb))
    · exact (k2 b hb).imp (fun h=>(h4 b).2 (.inr h)) id
section
variable {w0 w:World} {F:Nat->Prop} {M L:List Res}
theorem Know.ofTurns {R:List Res} (h:Know w0 w F M L) (hs: ∀ U,Sep w M U-> ∃ U',Sep w R U'/\ ∀ b,U' b->U b):Know w0 w F R L:=by
 obtain ⟨hm,U,h1,h2,h3⟩:=h
 obtain ⟨U',k1,k2⟩:=hs U h1
 refine ⟨hm,U',k1,fun b hb=>h2 b (k2 b hb),fun r hr=>?_⟩
 obtain ⟨T,i1,i2⟩:=h3 r hr
 exact ⟨T,i1,fun b hb hu=>i2 b hb (k2 b hu)⟩
theorem Know.setMany {r':Res} {rs:List Res} (i:Nat) (h:Know w0 w F (r'::rMany rs::M) L):Know w0 w F (rMany (rs.set i r')::M) L:=h.ofTurns (by
 rintro U ⟨S',V,h1,⟨S,V2,h2,h3,h4,h5⟩,h6,h7⟩
 obtain ⟨T,k1,k2⟩:=Sep.set (i:=i) (rMany_p.1 h2) h1 fun b hb hs=>h6 b hb ((h5 b).2 (.inl hs))
 refine ⟨fun b=>T b\/V2 b,⟨T,V2,rMany_p.2 k1,h3,fun b hb hv=>?_,fun b=>Iff.rfl⟩,?_⟩
 · rcases k2 b hb with h|h
   · exact h4 b h hv
   · exact h6 b h ((h5 b).2 (.inr hv))
 · rintro b (hb|hb)
   · rcases k2 b hb with h|h
     · exact (h7 b).2 (.inr ((h5 b).2 (.inl h)))
     · exact (h7 b).2 (.inl h)
   · exact (h7 b).2 (.inr ((h5 b).2 (.inr hb))))
inductive Pull:List Res->Res->List Res->Prop
 |head {r:Res} {M:List Res}:Pull (r::M) r M
 |tail {x r:Res} {M M':List Res}:Pull M r M'->Pull (x::M) r (x::M')
theorem Sep.pull {r:Res}: ∀ {M M':List Res} {U:Nat->Prop},Pull M r M'->Sep w M U->Sep w (r::M') U
 |_,_,_,.head,h=>h
 |_::_,_::_,U,.tail hp,⟨S,V,h1,h2,h3,h4⟩=>by
  obtain ⟨T,V2,k1,k2,k3,k4⟩:=Sep.pull hp h2
  refine ⟨T,fun b=>S b\/V2 b,k1,⟨S,V2,h1,k2,fun b hb hv=>h3 b hb ((k4 b).2 (.inr hv)),fun b=>Iff.rfl⟩,?_,?_⟩
  · rintro b hb (hs|hv)
    · exact h3 b hs ((k4 b).2 (.inl hb))
    · exact k3 b hb hv
  · intro b
    rw [h4,k4]
    constructor
    · rintro (h|h|h)
      · exact .inr (.inl h)
      · exact .inl h
      · exact .inr (.inr h)
    · rintro (h|h|h)
      · exact .inr (.inl h)
      · exact .inl h
      · exact .inr (.inr h)
theorem Know.pull {r:Res} {M':List Res} (h:Know w0 w F M L) (hp:Pull M r M'):Know w0 w F (r::M') L:=
 h.ofTurns fun U hs=>⟨U,hs.pull hp,fun _ h=>h⟩
theorem Know.pushMany {r:Res} {n:Nat} (h:Know w0 w F M L) (hr: ∃ S,r.p w S/\ ∀ b,¬ S b):Know w0 w F (rMany (List.replicate n r)::M) L:=
 h.push1 ⟨Mod.refl _ _,fun _=>False,rMany_p.2 (Sep.empty hr),fun _ h=>h.elim⟩
theorem Know.pick {rs A B:List Res} {r:Res} (h:Know w0 w F (rMany rs::M) L) (he:rs=A++r::B):Know w0 w F (r::rMany (A++B)::M) L:=h.ofTurns (by
 rintro U ⟨S,V,h1,h2,h3,h4⟩
 subst he
 have h1:=rMany_p.1 h1
 obtain ⟨SA,SB,k1,⟨T,TB,j1,j2,j3,j4⟩,k3,k4⟩:=Sep.append.1 h1
 refine ⟨U,⟨T,fun b=>(SA b\/TB b)\/V b,j1,⟨fun b=>SA b\/TB b,V,rMany_p.2 (Sep.append.2 ⟨SA,TB,k1,j2,fun b hb hv=>k3 b hb ((j4 b).2 (.inr hv)),fun b=>Iff.rfl⟩),h2,?_,fun b=>Iff.rfl⟩,?_,?_⟩,fun _ h=>h⟩
 · rintro b (hb|hb) hv
   · exact h3 b ((k4 b).2 (.inl hb)) hv
   · exact h3 b ((k4 b).2 (.inr ((j4 b).2 (.inr hb)))) hv
 · rintro b hb ((h|h)|h)
   · exact k3 b h ((j4 b).2 (.inl hb))
   · exact j3 b hb h
   · exact h3 b ((k4 b).2 (.inr ((j4 b).2 (.inl hb)))) h
 · intro b
   rw [h4,k4,j4]
   constructor
   · rintro ((h|h|h)|h)
     · exact .inr (.inl (.inl h))
     · exact .inl h
     · exact .inr (.inl (.inr h))
     · exact .inr (.inr h)
   · rintro (h|(h|h)|h)
     · exact .inl (.inr (.inl h))
     · exact .inl (.inl h)
     · exact .inl (.inr (.inr h))
     · exact .inr h)
theorem Know.putBack {A B:List Res} {r:Res} (h:Know w0 w F (r::rMany (A++B)::M) L):Know w0 w F (rMany (A++r::B)::M) L:=h.ofTurns (by
 rintro U ⟨T,V,h1,⟨S,V2,h2,h3,h4,h5⟩,h6,h7⟩
 obtain ⟨SA,SB,k1,k2,k3,k4⟩:=Sep.append.1 (rMany_p.1 h2)
 refine ⟨U,⟨fun b=>SA b\/(T b\/SB b),V2,rMany_p.2 (Sep.append.2 ⟨SA,fun b=>T b\/SB b,k1,⟨T,SB,h1,k2,?_,fun b=>Iff.rfl⟩,?_,fun b=>Iff.rfl⟩),h3,?_,?_⟩,fun _ h=>h⟩
 · intro b hb hs
   exact h6 b hb ((h5 b).2 (.inl ((k4 b).2 (.inr hs))))
 · rintro b hb (ht|hs)
   · exact h6 b ht ((h5 b).2 (.inl ((k4 b).2 (.inl hb))))
   · exact k3 b hb hs
 · rintro b (hb|hb|hb) hv
   · exact h4 b ((k4 b).2 (.inl hb)) hv
   · exact h6 b hb ((h5 b).2 (.inr hv))
   · exact h4 b ((k4 b).2 (.inr hb)) hv
 · intro b
   rw [h7,h5,k4]
   constructor
   · rintro (h|(h|h)|h)
     · exact .inl (.inr (.inl h))
     · exact .inl (.inl h)
     · exact .inl (.inr (.inr h))
     · exact .inr h
   · rintro ((h|h|h)|h)
     · exact .inr (.inl (.inl h))
     · exact .inl h
     · exact .inr (.inl (.inr h))
     · exact .inr (.inr h))
theorem Know.putLast {A:List Res} {r:Res} (h:Know w0 w F (r::rMany A::M) L):Know w0 w F (rMany (A++[r])::M) L:=by
 rw [<-List.append_nil A] at h
 exact h.putBack
variable {P:Program} {ops:Array Oper} {rest:List Oper} {o:Oper} {a:Act} {Q:Exit->Act->World->Prop}
theorem wl_ixE {α:Type} {E:El α} {t e:TypeId} {x y:Operand} {n c i:Nat} {ad:Option Addr} {kd:IntKind} {xs:List α} {u:α} (hK:Know w0 w F M L) (ho:o.op=.indexAddr t x y) (hw:Region.wanted o (yielded ops a.tmps)=true) (hx:a.eval x=.slice ad n c) (hy:a.eval y=.int kd (i:Int))
 (ht:P.underlying t=some (.slice e)) (hsz:sizeB P e E.sz=true)
 (hm:MemS E (.slice ad n c) xs M\/MemS E (.slice ad n c) xs L:=by first|(left;repeat (first|exact MemS.rd|exact MemS.ow|apply MemS.tail));done|(right;repeat (first|exact MemS.rd|exact MemS.ow|apply MemS.tail));done)
 (hu:RowKit.Hid (xs[i]?=some u):=by assumption)
 (h: ∀ b k,At w b k (E.cells u)->(∀ W,Rd W E (.slice ad n c) xs->At W b k (E.cells u))->wpList P ops Q rest (a.put o.dst (.pointer (some ⟨b,k,none⟩))) w):wpList P ops Q (o::rest) a w:=by
 have hs:=hK.rd hm
 obtain ⟨b,k,rfl,hat⟩:=hs.elem hu.out
 have hlt:i<xs.length:=(List.getElem?_eq_some_iff.1 hu.out).1
 refine wl_indexAddr (b:=b) (k:=k) ho hw hx hy ht hsz (Int.natCast_nonneg i) (by rw [hs.n];omega) ?_
 rw [Int.toNat_natCast]
 refine h b _ hat fun W hW=>?_
 obtain ⟨b',k',he,hat'⟩:=hW.elem hu.out
 injection he with he
 injection he with h1 h2 _
 subst h1 h2
 exact hat'
theorem stays_loadSE {α:Type} {E:El α} {k0:Nat} {S:List Nat} {a:Act} {o:Oper} {t:TypeId} {x:Operand} {b k d n:Nat} {R:List Res} {v:Value} {xs:List α} {u:α} (ds:List Value) (ho:ops[k0]?=some o) (hop:o.op=.load t x) (hd:o.dst=some d) (hx:a.eval x=.pointer (some ⟨b,k,none⟩))
 (hs:aggB P t n=true) (hel: ∀ W,Rd W E v xs->At W b k (E.cells u)) (hm:rRd E v xs∈R) (hds:(E.cells u).take ds.length=ds) (hn:ds.length=n) (hv:a.tmps.getD d undef=.agg ds.toArray) (rest:stays P ops (fun W=> ∀ r∈R,Has W r) S a):stays P ops (fun W=> ∀ r∈R,Has W r) (k0::S) a:=by
 intro k' hk o' ho' hw W hW
 rcases List.mem_cons.1 hk with rfl|hk
 · rw [ho] at ho'
   injection ho' with ho'
   subst ho'
   refine .inl ?_
   have h1:=hel W (hW _ hm).rd
   have h2:At W b k ds:=by rw [<-hds];exact h1.take _
   have hl:=run_loadS (P:=P) (w:=W) hs hn h2
   simp only [execOp,hop,hx,Sem.run_bind,hl,Result.andThen_ok,Sem.run_pure,hd,Option.map_some,Option.getD_some,hv]
 · exact rest k' hk o' ho' hw W hW
end
end Go.Sk
namespace Go.Sk
open Go
theorem Ow.shrink {α:Type} {E:El α} {e:TypeId} {w:World} {ad:Option Addr} {n c:Nat} {l:List α} (h:Ow w e E (.slice ad n c) l) {k:Nat} (hk:k<=l.length):Ow w e E (.slice ad k c) (l.take k):=by
 have hn:=h.rd.n
 subst hn
 have hl:(l.take k).length=k:=by rw [List.length_take];omega
 unfold Ow
 rw [hl]
 obtain ⟨h1,h2⟩:=h
 refine ⟨by rw [E.flat_len,hl],?_⟩
 rcases h2 with ⟨h2,h3⟩|⟨g,cap,cur,h2,h3,h4,h5,h6,h7,h8⟩
 · injection h2 with e1 e2 e3
   subst e1 e3
   have:k=0:=by omega
   subst this
   exact .inl ⟨rfl,by simp [flat]⟩
 · injection h2 with e1 e2 e3
   subst e1 e3
   refine .inr ⟨g,c,cur,rfl,h3,h4,by omega,h6,h7,?_⟩
   rw [flat_take E.cells E.sz E.len,<-h8,List.take_take,Nat.min_eq_left (Nat.mul_le_mul_right _ hk)]
theorem Ow.addr {α:Type} {E:El α} {e:TypeId} {w:World} {ad:Option Addr} {n c:Nat} {l:List α} (h:Ow w e E (.slice ad n c) l) (hl:l≠[]): ∃ b,ad=some ⟨b,0,none⟩:=by
 cases l with
 |nil=>exact absurd rfl hl
 |cons x l=>
  obtain ⟨b,h,_⟩:=h.elem (i:=0) (x:=x) rfl
  exact ⟨b,h⟩
theorem Ow.capLe {α:Type} {E:El α} {e:TypeId} {w:World} {ad:Option Addr} {n c:Nat} {l:List α} (h:Ow w e E (.slice ad n c) l):n<=c:=by
 rcases h.2 with ⟨h2,_⟩|⟨g,cap,cur,h2,h3,h4,h5,_⟩
 · injection h2 with _ e2 e3;omega
 · injection h2 with _ _ e3;have:=h.rd.n;omega
section
variable {w0 w:World} {F:Nat->Prop} {M L:List Res}
theorem Know.alter {r r':Res} {rs:List Res} {m:Nat} (h:Know w0 w F (rMany rs::M) L) (hm:rs[m]?=some r) (ho: ∀ w S,r.p w S->r'.p w S):Know w0 w F (rMany (rs.set m r')::M) L:=by
 have hlt:m<rs.length:=(List.getElem?_eq_some_iff.1 hm).1
 have he:rs=rs.take m++r::rs.drop (m+1):=by
  rw [(List.getElem?_eq_some_iff.1 hm).2.symm,<-List.drop_eq_getElem_cons hlt,List.take_append_drop]
 have h1:=h.pick he
 have h2:=h1.split (R:=[r']) .head fun w S hr=>⟨S,fun _=>False,ho w S hr,fun _ h=>h,fun _ _ h=>h,fun b=>by simp⟩
 have h3:=Know.putBack (A:=rs.take m) (B:=rs.drop (m+1)) (r:=r') h2
 rw [List.set_eq_take_append_cons_drop,if_pos hlt]
 exact h3
theorem Know.pickAt {r:Res} {rs:List Res} {m:Nat} (h:Know w0 w F (rMany rs::M) L) (hm:rs[m]?=some r):Know w0 w F (r::rMany (rs.take m++rs.drop (m+1))::M) L:=by
 have hlt:m<rs.length:=(List.getElem?_eq_some_iff.1 hm).1
 have he:rs=rs.take m++r::rs.drop (m+1):=by
  rw [(List.getElem?_eq_some_iff.1 hm).2.symm,<-List.drop_eq_getElem_cons hlt,List.take_append_drop]
 exact h.pick he
theorem Know.putAt {r:Res} {rs:List Res} {m:Nat} (h:Know w0 w F (r::rMany (rs.take m++rs.drop (m+1))::M) L) (hlt:m<rs.length):Know w0 w F (rMany (rs.set m r)::M) L:=by
 rw [List.set_eq_take_append_cons_drop,if_pos hlt]
 exact h.putBack
end
end Go.Sk
namespace Go.Sk
open Go
def tellOne (c:ConfP) (f:Cell->List Int) (k:Nat):Option StackP:=if openB c (cellAt c.w k)=true then some ⟨cellAt c.w k,f (cellAt c.w k)⟩ else none
def toldTo (c:ConfP) (f:Cell->List Int) (n:Nat):List StackP:=(List.range n).filterMap (tellOne c f)
theorem toldTo_succ {c:ConfP} {f:Cell->List Int} (n:Nat):toldTo c f (n+1)=toldTo c f n++(tellOne c f n).toList:=by
 unfold toldTo
 rw [List.range_succ,List.filterMap_append]
 congr 1
theorem toldTo_le {c:ConfP} {f:Cell->List Int} (n:Nat):(toldTo c f n).length<=n:=by
 unfold toldTo
 exact Nat.le_trans (List.length_filterMap_le _ _) (by simp)
theorem Sep.mem {w:World} {r:Res}: ∀ {M:List Res} {U:Nat->Prop},Sep w M U->r∈M-> ∃ T,r.p w T/\ ∀ b,T b->U b
 |_::_,U,⟨S,V,h1,h2,_,h4⟩,hr=>by
  rcases List.mem_cons.1 hr with rfl|hr
  · exact ⟨S,h1,fun b hb=>(h4 b).2 (.inl hb)⟩
  · obtain ⟨T,i1,i2⟩:=Sep.mem h2 hr
    exact ⟨T,i1,fun b hb=>(h4 b).2 (.inr (i2 b hb))⟩
theorem Know.focusM {w0 w:World} {F:Nat->Prop} {R M L:List Res} (h:Know w0 w F (R++M) L): ∃ S,Know w w S R (M++L)/\ ∀ w' R',Turns R' w w' S->Know w0 w' F (R'++M) L:=by
 obtain ⟨hm,U,h1,h2,h3⟩:=h
 obtain ⟨S,V,k1,k2,k3,k4⟩:=Sep.append.1 h1
 refine ⟨S,⟨Mod.refl _ _,S,k1,fun b hb=>.inl hb,fun r hr=>?_⟩,fun w' R' ht=>?_⟩
 · rcases List.mem_append.1 hr with hr|hr
   · obtain ⟨T,i1,i2⟩:=k2.mem hr
     exact ⟨T,i1,fun b hb hs=>k3 b hs (i2 b hb)⟩
   · obtain ⟨T,i1,i2⟩:=h3 r hr
     exact ⟨T,i1,fun b hb hs=>i2 b hb ((k4 b).2 (.inl hs))⟩
 · obtain ⟨m,S',j1,j2⟩:=ht
   refine ⟨hm.drop m fun b hb=>h2 b ((k4 b).2 (.inl hb)),fun b=>S' b\/V b,(Sep.append (A:=R') (B:=M)).2 ⟨S',V,j1,k2.mod m fun b hb hs=>k3 b hs hb,?_,fun b=>Iff.rfl⟩,?_,fun r hr=>?_⟩
   · intro b hb hv
     rcases j2 b hb with h|h
     · exact k3 b h hv
     · have:=k2.lt b hv;omega
   · rintro b (hb|hb)
     · rcases j2 b hb with h|h
       · exact h2 b ((k4 b).2 (.inl h))
       · right;have:=hm.size;omega
     · exact h2 b ((k4 b).2 (.inr hb))
   · obtain ⟨T,i1,i2⟩:=h3 r hr
     refine ⟨T,r.mod i1 m fun b hb hs=>i2 b hb ((k4 b).2 (.inl hs)),?_⟩
     rintro b hb (hs|hv)
     · rcases j2 b hs with h|h
       · exact i2 b hb ((k4 b).2 (.inl h))
       · have:=r.lt i1 b hb;omega
     · exact i2 b hb ((k4 b).2 (.inr hv))
theorem stays_skip {P:Program} {ops:Array Oper} {C:World->Prop} {k:Nat} {S:List Nat} {a:Act} {o:Oper} (ho:ops[k]?=some o) (hw:Region.wanted o (yielded ops a.tmps)=false) (rest:stays P ops C S a):stays P ops C (k::S) a:=by
 intro k' hk o' ho' hw' W hW
 rcases List.mem_cons.1 hk with rfl|hk
 · rw [ho] at ho'
   injection ho' with ho'
   subst ho'
   rw [hw] at hw'
   cases hw'
 · exact rest k' hk o' ho' hw' W hW
end Go.Sk
