/- Texts of mine that belong together: SkAuto, SkAl, SkDoc, SkLoop. -/
import Derived.Test.YtngeeilkpnihmaaGreatDoorSkDZ
import Derived.Tactics2
import Derived.LoopN
set_option linter.all false
namespace Go.Sk
open Go
inductive Cut {α:Type}:List α->Nat->Nat->List α->Prop
 |nil {l:List α}:Cut l 0 0 []
 |take {x:α} {l m:List α} {n:Nat}:Cut l 0 n m->Cut (x::l) 0 (n+1) (x::m)
 |drop {x:α} {l m:List α} {k n:Nat}:Cut l k n m->Cut (x::l) (k+1) n m
theorem Cut.eq {α:Type} {l m:List α} {k n:Nat} (h:Cut l k n m):(l.drop k).take m.length=m/\m.length=n:=by
 induction h with
 |nil=>exact ⟨rfl,rfl⟩
 |take _ ih=>exact ⟨by simpa using ih.1,by simp [ih.2]⟩
 |drop _ ih=>exact ⟨by simpa using ih.1,ih.2⟩
inductive Put {α:Type}:List α->Nat->List α->List α->Prop
 |nil {l:List α}:Put l 0 [] l
 |take {x y:α} {l vs m:List α}:Put l 0 vs m->Put (x::l) 0 (y::vs) (y::m)
 |drop {x:α} {l vs m:List α} {k:Nat}:Put l k vs m->Put (x::l) (k+1) vs (x::m)
theorem Put.eq {α:Type} {l vs m:List α} {k:Nat} (h:Put l k vs m):l.take k++vs++l.drop (k+vs.length)=m/\k+vs.length<=l.length:=by
 induction h with
 |nil=>exact ⟨by simp,by simp⟩
 |take _ ih=>
  have h1:=ih.1
  have h2:=ih.2
  simp only [List.take_zero,List.nil_append,Nat.zero_add] at h1 h2
  refine ⟨?_,by simp only [List.length_cons];omega⟩
  rw [List.take_zero,List.nil_append,Nat.zero_add,List.length_cons,List.drop_succ_cons,List.cons_append,h1]
 |drop _ ih=>
  refine ⟨?_,by simp only [List.length_cons];have:=ih.2;omega⟩
  rw [List.take_succ_cons,show ∀ k n:Nat,k+1+n=(k+n)+1 by omega,List.drop_succ_cons,List.cons_append,List.cons_append,ih.1]
inductive CellsOf:Value->List Value->Prop
 |agg {l:List Value}:CellsOf (.agg l.toArray) l
 |int {k:IntKind} {p:Int}:CellsOf (.int k p) [.int k p]
 |bool {b:Bool}:CellsOf (.bool b) [.bool b]
 |ptr {a:Option Addr}:CellsOf (.pointer a) [.pointer a]
 |sl {a:Option Addr} {n c:Nat}:CellsOf (.slice a n c) [.slice a n c]
 |one {v:Value} (h:v.oneCell'=true):CellsOf v [v]
inductive Turned (b:Nat) (cs:List Value) (T:TypeId) (cs':List Value):List Res->List Res->Prop
 |head {M:List Res}:Turned b cs T cs' (rBlk b cs T::M) (rBlk b cs' T::M)
 |tail {x:Res} {M M':List Res}:Turned b cs T cs' M M'->Turned b cs T cs' (x::M) (x::M')
theorem Turned.ix {b:Nat} {cs cs':List Value} {T:TypeId} {M M':List Res} (h:Turned b cs T cs' M M'): ∃ i,Ix M (rBlk b cs T) i/\M.set i (rBlk b cs' T)=M':=by
 induction h with
 |head=>exact ⟨0,.head,rfl⟩
 |tail _ ih=>
  obtain ⟨i,h1,h2⟩:=ih
  exact ⟨i+1,.tail h1,by rw [List.set_cons_succ,h2]⟩
inductive SetParts (ps:List (Nat×Nat)):List Value->List (Nat×Value)->List Value->Prop
 |nil {zs:List Value}:SetParts ps zs [] zs
 |cons {i off n:Nat} {v:Value} {zs zs' vs r:List Value} {l:List (Nat×Value)} (hp:ps[i]?=some (off,n)) (hc:CellsOf v vs) (hn:vs.length=n) (hput:Put zs off vs zs') (h:SetParts ps zs' l r):SetParts ps zs ((i,v)::l) r
theorem CellsOf.cells {v:Value} {l:List Value} (h:CellsOf v l):v.cells=l.toArray:=by
 cases h with
 |one h=>cases v<;>first|rfl|(cases h)
 |_=>rfl
theorem foldl_put {vs:List Value}: ∀ (zs:Array Value) (off k:Nat),off+k+vs.length<=zs.size->
 ((vs.zipIdx k).foldl (fun cs (x:Value×Nat)=>cs.setIfInBounds (off+x.2) x.1) zs).toList=zs.toList.take (off+k)++vs++zs.toList.drop (off+k+vs.length):=by
 induction vs with
 |nil=>intro zs off k _;simp
 |cons v vs ih=>
  intro zs off k h
  simp only [List.length_cons] at h
  rw [List.zipIdx_cons,List.foldl_cons,ih _ _ _ (by simp only [Array.size_setIfInBounds];omega)]
  have hl:off+k<zs.toList.length:=by simp;omega
  rw [Array.toList_setIfInBounds,show off+(k+1)=(off+k)+1 by omega,List.length_cons]
  rw [List.take_set,List.drop_set,if_pos (by omega)]
  rw [List.take_succ_eq_append_getElem hl,show (off+k+1+vs.length)=off+k+(vs.length+1) by omega]
  rw [List.set_append_right _ _ (by rw [List.length_take];omega),List.length_take,Nat.min_eq_left (by omega),Nat.sub_self]
  simp
theorem SetParts.fill {ps:List (Nat×Nat)} {zs r:List Value} {l:List (Nat×Value)} (h:SetParts ps zs l r):Instr.fill (fun i=>ps.toArray[i]?) zs.toArray l=some r.toArray:=by
 induction h with
 |nil=>rfl
 | @cons i off n v zs zs' vs r l hp hc hn hput _ ih=>
   have e1:=hc.cells
   have e2:=hput.eq
   subst hn
   rw [Instr.fill]
   simp only [List.getElem?_toArray,hp,e1,List.size_toArray]
   rw [if_neg (by have:=e2.2;simp;omega)]
   have e3:Array.foldl (fun cs (x:Value×Nat)=>cs.setIfInBounds (off+x.2) x.1) zs.toArray vs.toArray.zipIdx=zs'.toArray:=by
    apply Array.toList_inj.1
    rw [<-Array.foldl_toList,Array.toList_zipIdx]
    have:=foldl_put (vs:=vs) zs.toArray off 0 (by simpa using e2.2)
    simp only [Nat.add_zero] at this
    rw [this]
    exact e2.1
   rw [show (fun cs (x:Value×Nat)=>cs.setIfInBounds (off+x.2) x.1)=(fun (cs:Array Value) (x:Value×Nat)=>match x with|(c,j)=>cs.setIfInBounds (off+j) c) from rfl] at e3
   rw [e3]
   simpa using ih
class ZeroT (P:Program) (t:TypeId) (z:outParam Value):Prop where
 out:(P.info? t).bind (·.zero)=some z
class PlacesT (P:Program) (t:TypeId) (zs:outParam (List Value)) (ps:outParam (List (Nat×Nat))):Prop where
 out: ∀ (parts:Array (Nat×Value)) (w:World),(Instr.build t parts).run P w=((match Instr.fill (fun i=>ps.toArray[i]?) zs.toArray parts.toList with
  |some cells=>pure (Value.agg cells)
  |_=>stuck "build: no such field, or a part of the wrong size"):Sem Value).run P w
class EqT (P:Program) (t:TypeId) (ks:outParam (List (Option IntKind))):Prop where
 out:eqTy P t ks=true
section
variable {P:Program} {ops:Array Oper} {Q:Exit->Act->World->Prop} {o:Oper} {rest:List Oper} {a:Act} {w0 w:World} {F:Nat->Prop} {M L:List Res}
theorem au_loadP {t:TypeId} {x:Operand} {b k n:Nat} {cs ds:List Value} {T:TypeId} (hK:Know w0 w F M L) (ho:o.op=.load t x) (hw:Region.wanted o (yielded ops a.tmps)=true) (hx:a.eval x=.pointer (some ⟨b,k,none⟩))
 (ht:aggB P t n=true) (hm:MemB b cs T M\/MemB b cs T L) (hc:Cut cs k n ds)
 (h:wpList P ops Q rest (a.put o.dst (.agg ds.toArray)) w):wpList P ops Q (o::rest) a w:=
 wl_loadPK ds hK ho hw hx ht hm hc.eq.1 hc.eq.2 h
theorem au_storeP {t:TypeId} {x y:Operand} {b k:Nat} {cs vs cs':List Value} {T:TypeId} {M':List Res} (hK:Know w0 w F M L) (ho:o.op=.store t x y) (hw:Region.wanted o (yielded ops a.tmps)=true) (hx:a.eval x=.pointer (some ⟨b,k,none⟩)) (hy:a.eval y=.agg vs.toArray)
 (ht:sizeB P t vs.length=true) (hv:vs.all (·.oneCell')=true) (hp:Put cs k vs cs') (hM:Turned b cs T cs' M M')
 (h: ∀ w',Know w0 w' F M' L->wpList P ops Q rest (a.put o.dst undef) w'):wpList P ops Q (o::rest) a w:=by
 obtain ⟨i,h1,rfl⟩:=hM.ix
 exact wl_storePK vs cs' hK ho hw hx hy ht (by simpa using hv) h1 rfl hp.eq.2 hp.eq.1 h
theorem au_store {t:TypeId} {x y:Operand} {b k:Nat} {v:Value} {cs cs':List Value} {T:TypeId} {M':List Res} (hK:Know w0 w F M L) (ho:o.op=.store t x y) (hw:Region.wanted o (yielded ops a.tmps)=true) (hx:a.eval x=.pointer (some ⟨b,k,none⟩)) (hy:a.eval y=v)
 (ht:sizeB P t 1=true) (hv:v.oneCell'=true) (hp:Put cs k [v] cs') (hM:Turned b cs T cs' M M')
 (h: ∀ w',Know w0 w' F M' L->wpList P ops Q rest (a.put o.dst undef) w'):wpList P ops Q (o::rest) a w:=by
 obtain ⟨i,h1,rfl⟩:=hM.ix
 have e:=hp.eq
 have hk:k<cs.length:=by have:=e.2;simp only [List.length_cons,List.length_nil] at this;omega
 refine wl_storeK hK ho hw hx hy ht hv h1 hk fun w' hK'=>h w' ?_
 have:cs.set k v=cs':=by
  rw [<-e.1,List.set_eq_take_append_cons_drop,if_pos hk]
  simp
 rwa [this] at hK'
theorem au_alloc {t:TypeId} {z:Value} {zs:List Value} [hz:ZeroT P t z] (hK:Know w0 w F M L) (ho:o.op=.alloc t) (hw:Region.wanted o (yielded ops a.tmps)=true) (hs:CellsOf z zs)
 (h: ∀ (w':World) (b:Nat),Know w0 w' F (rBlk b zs t::M) L->wpList P ops Q rest (a.put o.dst (.pointer (some ⟨b,0,none⟩))) w'):wpList P ops Q (o::rest) a w:=
 wl_allocK hK ho hw hz.out hs.cells h
theorem au_box {t:TypeId} {x:Operand} {v:Value} {zs:List Value} (hK:Know w0 w F M L) (ho:o.op=.box t x) (hw:Region.wanted o (yielded ops a.tmps)=true) (hx:a.eval x=v) (hs:CellsOf v zs)
 (h: ∀ (w':World) (b:Nat),Know w0 w' F (rBlk b zs t::M) L->wpList P ops Q rest (a.put o.dst (.pointer (some ⟨b,0,none⟩))) w'):wpList P ops Q (o::rest) a w:=
 wl_boxK hK ho hw hx hs.cells h
theorem au_build {t:TypeId} {parts:Array (Nat×Operand)} {zs r:List Value} {ps:List (Nat×Nat)} [hB:PlacesT P t zs ps] (ho:o.op=.build t parts) (hw:Region.wanted o (yielded ops a.tmps)=true) (hs:SetParts ps zs (parts.map fun (i,x)=>(i,a.eval x)).toList r)
 (h:wpList P ops Q rest (a.put o.dst (.agg r.toArray)) w):wpList P ops Q (o::rest) a w:=by
 refine wl_pure hw (fun W=>?_) h
 simp only [execOp,ho,Sem.run_bind,hB.out,hs.fill,Result.andThen_ok,Sem.run_pure]
theorem au_lss {t t':TypeId} {x y:Operand} {k:IntKind} {p q:Int} (ho:o.op=.binOp .lss t x y t') (hw:Region.wanted o (yielded ops a.tmps)=true) (hx:a.eval x=.int k p) (hy:a.eval y=.int k q)
 (h1:p<q->wpList P ops Q rest (a.put o.dst (.bool true)) w) (h2: ¬ p<q->wpList P ops Q rest (a.put o.dst (.bool false)) w):wpList P ops Q (o::rest) a w:=by
 refine wl_val (w':=w) (v:=.bool (decide (p<q))) hw ?_ ?_
 · simp only [execOp,ho,hx,hy]
   simp [go_sem]
   try (first|(by_cases h:p=q<;>simp [h])|(constructor<;>intro h<;>omega)|omega)
 · by_cases h:p<q
   · rw [decide_eq_true h];exact h1 h
   · rw [decide_eq_false h];exact h2 h
theorem au_leq {t t':TypeId} {x y:Operand} {k:IntKind} {p q:Int} (ho:o.op=.binOp .leq t x y t') (hw:Region.wanted o (yielded ops a.tmps)=true) (hx:a.eval x=.int k p) (hy:a.eval y=.int k q)
 (h1:p<=q->wpList P ops Q rest (a.put o.dst (.bool true)) w) (h2: ¬ p<=q->wpList P ops Q rest (a.put o.dst (.bool false)) w):wpList P ops Q (o::rest) a w:=by
 refine wl_val (w':=w) (v:=.bool (decide (p<=q))) hw ?_ ?_
 · simp only [execOp,ho,hx,hy]
   simp [go_sem]
   try (first|(by_cases h:p=q<;>simp [h])|(constructor<;>intro h<;>omega)|omega)
 · by_cases h:p<=q
   · rw [decide_eq_true h];exact h1 h
   · rw [decide_eq_false h];exact h2 h
theorem au_gtr {t t':TypeId} {x y:Operand} {k:IntKind} {p q:Int} (ho:o.op=.binOp .gtr t x y t') (hw:Region.wanted o (yielded ops a.tmps)=true) (hx:a.eval x=.int k p) (hy:a.eval y=.int k q)
 (h1:q<p->wpList P ops Q rest (a.put o.dst (.bool true)) w) (h2: ¬ q<p->wpList P ops Q rest (a.put o.dst (.bool false)) w):wpList P ops Q (o::rest) a w:=by
 refine wl_val (w':=w) (v:=.bool (decide (q<p))) hw ?_ ?_
 · simp only [execOp,ho,hx,hy]
   simp [go_sem]
   try (first|(by_cases h:p=q<;>simp [h])|(constructor<;>intro h<;>omega)|omega)
 · by_cases h:q<p
   · rw [decide_eq_true h];exact h1 h
   · rw [decide_eq_false h];exact h2 h
theorem au_geq {t t':TypeId} {x y:Operand} {k:IntKind} {p q:Int} (ho:o.op=.binOp .geq t x y t') (hw:Region.wanted o (yielded ops a.tmps)=true) (hx:a.eval x=.int k p) (hy:a.eval y=.int k q)
 (h1:q<=p->wpList P ops Q rest (a.put o.dst (.bool true)) w) (h2: ¬ q<=p->wpList P ops Q rest (a.put o.dst (.bool false)) w):wpList P ops Q (o::rest) a w:=by
 refine wl_val (w':=w) (v:=.bool (decide (q<=p))) hw ?_ ?_
 · simp only [execOp,ho,hx,hy]
   simp [go_sem]
   try (first|(by_cases h:p=q<;>simp [h])|(constructor<;>intro h<;>omega)|omega)
 · by_cases h:q<=p
   · rw [decide_eq_true h];exact h1 h
   · rw [decide_eq_false h];exact h2 h
theorem au_eql {t t':TypeId} {x y:Operand} {k:IntKind} {p q:Int} (ho:o.op=.binOp .eql t x y t') (hw:Region.wanted o (yielded ops a.tmps)=true) (hx:a.eval x=.int k p) (hy:a.eval y=.int k q)
 (h1:p<=q/\q<=p->wpList P ops Q rest (a.put o.dst (.bool true)) w) (h2: ¬ p=q->wpList P ops Q rest (a.put o.dst (.bool false)) w):wpList P ops Q (o::rest) a w:=by
 refine wl_val (w':=w) (v:=.bool (decide (p=q))) hw ?_ ?_
 · simp only [execOp,ho,hx,hy]
   simp [go_sem]
   try (first|(by_cases h:p=q<;>simp [h])|(constructor<;>intro h<;>omega)|omega)
 · by_cases h:p=q
   · rw [decide_eq_true h];exact h1 ⟨by omega,by omega⟩
   · rw [decide_eq_false h];exact h2 h
theorem au_neq {t t':TypeId} {x y:Operand} {k:IntKind} {p q:Int} (ho:o.op=.binOp .neq t x y t') (hw:Region.wanted o (yielded ops a.tmps)=true) (hx:a.eval x=.int k p) (hy:a.eval y=.int k q)
 (h1:p<=q/\q<=p->wpList P ops Q rest (a.put o.dst (.bool false)) w) (h2: ¬ p=q->wpList P ops Q rest (a.put o.dst (.bool true)) w):wpList P ops Q (o::rest) a w:=by
 refine wl_val (w':=w) (v:=.bool (!decide (p=q))) hw ?_ ?_
 · simp only [execOp,ho,hx,hy]
   simp [go_sem]
   try (first|(by_cases h:p=q<;>simp [h])|(constructor<;>intro h<;>omega)|omega)
 · by_cases h:p=q
   · rw [decide_eq_true h];exact h1 ⟨by omega,by omega⟩
   · rw [decide_eq_false h];exact h2 h
theorem au_eqlL {t yt:TypeId} {x y:Operand} {ks:List (Option IntKind)} {xs ys:List Value} [ht:EqT P t ks] (ho:o.op=.binOp .eql t x y yt) (hw:Region.wanted o (yielded ops a.tmps)=true) (hx:a.eval x=.agg xs.toArray) (hy:a.eval y=.agg ys.toArray)
 (kx:ofKinds ks xs=true) (ky:ofKinds ks ys=true) (h1:cellsEq xs ys=true->wpList P ops Q rest (a.put o.dst (.bool true)) w) (h2:cellsEq xs ys=false->wpList P ops Q rest (a.put o.dst (.bool false)) w):wpList P ops Q (o::rest) a w:=
 wl_eqlS ho hw hx hy ht.out kx ky (by
  cases h:cellsEq xs ys
  · exact h2 h
  · exact h1 h)
theorem au_neqL {t yt:TypeId} {x y:Operand} {ks:List (Option IntKind)} {xs ys:List Value} [ht:EqT P t ks] (ho:o.op=.binOp .neq t x y yt) (hw:Region.wanted o (yielded ops a.tmps)=true) (hx:a.eval x=.agg xs.toArray) (hy:a.eval y=.agg ys.toArray)
 (kx:ofKinds ks xs=true) (ky:ofKinds ks ys=true) (h1:cellsEq xs ys=true->wpList P ops Q rest (a.put o.dst (.bool false)) w) (h2:cellsEq xs ys=false->wpList P ops Q rest (a.put o.dst (.bool true)) w):wpList P ops Q (o::rest) a w:=
 wl_neqS ho hw hx hy ht.out kx ky (by
  cases h:cellsEq xs ys
  · exact h2 h
  · exact h1 h)
end
end Go.Sk
namespace Go.Sk
open Go
def lk:List (Nat×Value)->Nat->Value
 |[],_=>undef
 |(d,v)::l,t=>match Nat.beq t d with
  |true=>v
  |false=>lk l t
def alAct (n:Nat) (l:List (Nat×Value)) (ds:List Deferred):Act:=⟨((List.range n).map (lk l)).toArray,ds⟩
def ev (n:Nat) (l:List (Nat×Value)):Operand->Value
 |.tmp t=>match Nat.blt t n with
  |true=>lk l t
  |false=>undef
 |.const v=>v
 |.global g=>.pointer (some ⟨g,0,none⟩)
 |.func f=>.func (.func f) #[] #[]
theorem alAct_get {n t:Nat} {l:List (Nat×Value)} {ds:List Deferred}:(alAct n l ds).tmps[t]?=(match Nat.blt t n with|true=>some (lk l t)|false=>none):=by
 unfold alAct
 simp only [List.getElem?_toArray,List.getElem?_map]
 cases h:Nat.blt t n
 · have: ¬ t<n:=fun hh=>by rw [show Nat.blt t n=true from Nat.blt_eq ▸ hh] at h;cases h
   rw [List.getElem?_eq_none (by rw [List.length_range];omega)]
   rfl
 · have:t<n:=Nat.blt_eq ▸ h
   rw [List.getElem?_range this]
   rfl
theorem ev_eq (n:Nat) (l:List (Nat×Value)) (ds:List Deferred):(alAct n l ds).eval=ev n l:=by
 funext x
 cases x with
 |tmp t=>
  show (alAct n l ds).tmps.getD t undef=_
  rw [Array.getD_eq_getD_getElem?,alAct_get]
  simp only [ev]
  cases Nat.blt t n<;>rfl
 |const v=>rfl
 |global g=>rfl
 |func f=>rfl
theorem al_put {n d:Nat} {v:Value} {l:List (Nat×Value)} {ds:List Deferred}:(alAct n l ds).put (some d) v=alAct n ((d,v)::l) ds:=by
 show (⟨((List.range n).map (lk l)).toArray.setIfInBounds d v,ds⟩:Act)=⟨((List.range n).map (lk ((d,v)::l))).toArray,ds⟩
 congr 1
 apply Array.ext_getElem?
 intro t
 simp only [Array.getElem?_setIfInBounds,List.getElem?_toArray,List.getElem?_map,List.size_toArray,List.length_map,List.length_range]
 by_cases h:d=t
 · subst h
   rw [if_pos rfl]
   by_cases hn:d<n
   · rw [if_pos hn,List.getElem?_range hn]
     simp [lk]
   · rw [if_neg hn,List.getElem?_eq_none (by rw [List.length_range];omega)]
     rfl
 · rw [if_neg h]
   by_cases hn:t<n
   · rw [List.getElem?_range hn]
     have:Nat.beq t d=false:=by
      cases e:Nat.beq t d
      · rfl
      · exact absurd (Nat.eq_of_beq_eq_true e).symm h
     simp [lk,this]
   · rw [List.getElem?_eq_none (by rw [List.length_range];omega)]
     rfl
def wantedL (ops:Array Oper) (n:Nat) (l:List (Nat×Value)) (o:Oper):Option Bool:=
 match o.guard with
 |none=>some true
 |some (j,want)=>
  match ops[j]? with
  |none=>some false
  |some p=>match p.dst with
   |none=>some false
   |some s=>match Nat.blt s n with
    |false=>some false
    |true=>match lk l s with
     |.bool b=>some (b == want)
     |_=>some false
theorem wanted_of {ops:Array Oper} {n:Nat} {l:List (Nat×Value)} {ds:List Deferred} {o:Oper} {b:Bool} (h:wantedL ops n l o=some b):Region.wanted o (yielded ops (alAct n l ds).tmps)=b:=by
 unfold wantedL at h
 unfold Region.wanted
 cases hg:o.guard with
 |none=>rw [hg] at h;injection h
 |some g=>
  obtain ⟨j,want⟩:=g
  rw [hg] at h
  simp only at h ⊢
  unfold yielded
  cases hp:ops[j]? with
  |none=>rw [hp] at h;injection h
  |some p=>
   rw [hp] at h
   simp only [Option.bind_some] at h ⊢
   cases hd:p.dst with
   |none=>rw [hd] at h;injection h
   |some s=>
    rw [hd] at h
    simp only [Option.bind_some,alAct_get] at h ⊢
    cases hb:Nat.blt s n with
    |false=>rw [hb] at h;injection h
    |true=>
     rw [hb] at h
     simp only at h ⊢
     generalize lk l s=v at h ⊢
     cases v<;>(cases h;first|rfl|simp)
inductive Vis:Value->Value->Prop
 |int {k:IntKind} {p:Int}:Vis (.int k p) (.int k p)
 |ptr {a:Option Addr}:Vis (.pointer a) (.pointer a)
 |bool {b:Bool}:Vis (.bool b) (.bool b)
 |sl {a:Option Addr} {n c:Nat}:Vis (.slice a n c) (.slice a n c)
 |agg {l:List Value}:Vis (.agg l.toArray) (.agg l.toArray)
 |tup {l:List Value}:Vis (.tuple l.toArray) (.tuple l.toArray)
 |refl {v:Value}:Vis v v
theorem Vis.eq {v v':Value} (h:Vis v v'):v=v':=by cases h<;>rfl
inductive VisL (n:Nat) (l:List (Nat×Value)):List Operand->List Value->Prop
 |nil:VisL n l [] []
 |cons {x:Operand} {xs:List Operand} {v:Value} {vs:List Value} (h:Vis (ev n l x) v) (t:VisL n l xs vs):VisL n l (x::xs) (v::vs)
theorem VisL.eq {n:Nat} {l:List (Nat×Value)} {xs:List Operand} {vs:List Value} (h:VisL n l xs vs):xs.map (ev n l)=vs:=by
 induction h with
 |nil=>rfl
 |cons h _ ih=>rw [List.map_cons,h.eq,ih]
class FieldT (P:Program) (s:TypeId) (f:Nat) (off:outParam Nat):Prop where
 out: ∀ (b k:Nat) (w:World),(Instr.fieldAt s (.pointer (some ⟨b,k,none⟩)) f).run P w=.ok (.pointer (some ⟨b,k+off,none⟩)) w
class BodyT (P:Program) (f:Nat):Prop where
 out: ∀ (args:Array Value) (w:World),(callFunc f args).run P w=.ok (.enter f args) w
class PtrT (P:Program) (t:TypeId):Prop where
 out:P.underlying t=some (.pointer (P.pointee t))
class SlT (P:Program) (t:TypeId) (e:outParam TypeId):Prop where
 out:P.underlying t=some (.slice e)
section
variable {P:Program} {ops:Array Oper} {Q:Exit->Act->World->Prop} {o:Oper} {rest:List Oper} {n d:Nat} {l:List (Nat×Value)} {ds:List Deferred} {w:World}
theorem al_val {v:Value} (hd:o.dst=some d) (hw:wantedL ops n l o=some true) (hr:(execOp (ev n l) o).run P w=.ok (.value v) w) (h:wpList P ops Q rest (alAct n ((d,v)::l) ds) w):wpList P ops Q (o::rest) (alAct n l ds) w:=
 wl_val (wanted_of hw) (by rw [ev_eq];exact hr) (by rw [hd,al_put];exact h)
theorem al_pass (hw:wantedL ops n l o=some false) (hd:o.dst=some d) (h:wpList P ops Q rest (alAct n ((d,undef)::l) ds) w):wpList P ops Q (o::rest) (alAct n l ds) w:=
 wl_pass (wanted_of hw) (by rw [hd,al_put];exact h)
theorem al_pass0 (hw:wantedL ops n l o=some false) (hd:o.dst=none) (h:wpList P ops Q rest (alAct n l ds) w):wpList P ops Q (o::rest) (alAct n l ds) w:=
 wl_pass (wanted_of hw) (by rw [hd];exact h)
theorem al_move {x:Operand} {v:Value} (ho:o.op=.move x) (hd:o.dst=some d) (hw:wantedL ops n l o=some true) (hx:Vis (ev n l x) v) (h:wpList P ops Q rest (alAct n ((d,v)::l) ds) w):wpList P ops Q (o::rest) (alAct n l ds) w:=
 al_val hd hw (by simp only [execOp,ho,hx.eq];rfl) h
theorem al_assign {x:Operand} {v:Value} (ho:o.op=.assign x) (hd:o.dst=some d) (hw:wantedL ops n l o=some true) (hx:Vis (ev n l x) v) (h:wpList P ops Q rest (alAct n ((d,v)::l) ds) w):wpList P ops Q (o::rest) (alAct n l ds) w:=
 al_val hd hw (by simp only [execOp,ho,hx.eq];rfl) h
theorem al_extract {x:Operand} {i:Nat} {vs:List Value} {v:Value} (ho:o.op=.extract x i) (hd:o.dst=some d) (hw:wantedL ops n l o=some true) (hx:ev n l x=.tuple vs.toArray) (hi:vs[i]?=some v) (h:wpList P ops Q rest (alAct n ((d,v)::l) ds) w):wpList P ops Q (o::rest) (alAct n l ds) w:=
 al_val hd hw (by simp only [execOp,ho,hx,Instr.extract,List.getElem?_toArray,hi];rfl) h
theorem al_nilCheck {x:Operand} {a:Addr} (ho:o.op=.nilCheck x) (hd:o.dst=some d) (hw:wantedL ops n l o=some true) (hx:ev n l x=.pointer (some a)) (h:wpList P ops Q rest (alAct n ((d,.pointer (some a))::l) ds) w):wpList P ops Q (o::rest) (alAct n l ds) w:=
 al_val hd hw (by simp only [execOp,ho,hx];rfl) h
theorem al_field {s:TypeId} {x:Operand} {f b k off k':Nat} [hf:FieldT P s f off] (ho:o.op=.fieldAddr s x f) (hd:o.dst=some d) (hw:wantedL ops n l o=some true) (hx:ev n l x=.pointer (some ⟨b,k,none⟩)) (hk:k+off=k') (h:wpList P ops Q rest (alAct n ((d,.pointer (some ⟨b,k',none⟩))::l) ds) w):wpList P ops Q (o::rest) (alAct n l ds) w:=
 al_val hd hw (by subst hk;simp only [execOp,ho,hx,Sem.run_bind,hf.out,Result.andThen_ok,Sem.run_pure]) h
theorem al_pickT {c x y:Operand} {v:Value} (ho:o.op=.pick c x y) (hd:o.dst=some d) (hw:wantedL ops n l o=some true) (hc:ev n l c=.bool true) (hx:Vis (ev n l x) v) (h:wpList P ops Q rest (alAct n ((d,v)::l) ds) w):wpList P ops Q (o::rest) (alAct n l ds) w:=
 al_val hd hw (by simp only [execOp,ho,hc,hx.eq];rfl) h
theorem al_pickF {c x y:Operand} {v:Value} (ho:o.op=.pick c x y) (hd:o.dst=some d) (hw:wantedL ops n l o=some true) (hc:ev n l c=.bool false) (hx:Vis (ev n l y) v) (h:wpList P ops Q rest (alAct n ((d,v)::l) ds) w):wpList P ops Q (o::rest) (alAct n l ds) w:=
 al_val hd hw (by simp only [execOp,ho,hc,hx.eq];rfl) h
theorem al_notT {x:Operand} {t:TypeId} (ho:o.op=.unOp .not t x) (hd:o.dst=some d) (hw:wantedL ops n l o=some true) (hx:ev n l x=.bool true) (h:wpList P ops Q rest (alAct n ((d,.bool false)::l) ds) w):wpList P ops Q (o::rest) (alAct n l ds) w:=
 al_val hd hw (by simp only [execOp,ho,hx];rfl) h
theorem al_notF {x:Operand} {t:TypeId} (ho:o.op=.unOp .not t x) (hd:o.dst=some d) (hw:wantedL ops n l o=some true) (hx:ev n l x=.bool false) (h:wpList P ops Q rest (alAct n ((d,.bool true)::l) ds) w):wpList P ops Q (o::rest) (alAct n l ds) w:=
 al_val hd hw (by simp only [execOp,ho,hx];rfl) h
theorem al_add {t t':TypeId} {x y:Operand} {p q:Int} (ho:o.op=.binOp .add t x y t') (hd:o.dst=some d) (hw:wantedL ops n l o=some true) (hx:ev n l x=.int .i64 p) (hy:ev n l y=.int .i64 q) (hb: -9223372036854775808<=p+q/\p+q<=9223372036854775807)
 (h:wpList P ops Q rest (alAct n ((d,.int .i64 (p+q))::l) ds) w):wpList P ops Q (o::rest) (alAct n l ds) w:=
 al_val hd hw (by
  simp only [execOp,ho,hx,hy]
  simp only [go_sem,Sem.run_bind,Sem.run_pure,Result.andThen_ok]
  rw [show IntKind.i64.wrap (p+q)=p+q by rw [IntKind.wrap_i64];omega]) h
theorem al_sub {t t':TypeId} {x y:Operand} {p q:Int} (ho:o.op=.binOp .sub t x y t') (hd:o.dst=some d) (hw:wantedL ops n l o=some true) (hx:ev n l x=.int .i64 p) (hy:ev n l y=.int .i64 q) (hb: -9223372036854775808<=p - q/\p - q<=9223372036854775807)
 (h:wpList P ops Q rest (alAct n ((d,.int .i64 (p - q))::l) ds) w):wpList P ops Q (o::rest) (alAct n l ds) w:=
 al_val hd hw (by
  simp only [execOp,ho,hx,hy]
  simp only [go_sem,Sem.run_bind,Sem.run_pure,Result.andThen_ok]
  rw [show IntKind.i64.wrap (p - q)=p - q by rw [IntKind.wrap_i64];omega]) h
theorem al_call {f:Nat} {xs:Array Operand} {ts:Array TypeId} {args:List Value} [hf:BodyT P f] (ho:o.op=.call ⟨.value (.func f),xs,ts⟩) (hd:o.dst=some d) (hw:wantedL ops n l o=some true) (ha:VisL n l xs.toList args)
 (h:Calls P f args.toArray w fun e w'=> ∃ v,e=.returned v/\wpList P ops Q rest (alAct n ((d,v)::l) ds) w'):wpList P ops Q (o::rest) (alAct n l ds) w:=by
 unfold wpList
 rw [if_pos (wanted_of hw)]
 left
 unfold Oper.wp
 have e:(execOp (alAct n l ds).eval o).run P w=.ok (.enter f args.toArray) w:=by
  rw [ev_eq]
  have hm:Array.map (ev n l) xs=args.toArray:=by
   apply Array.toList_inj.1
   rw [Array.toList_map,ha.eq]
  have h1:(resolve (ev n l) ⟨.value (.func f),xs,ts⟩ o.type).run P w=.ok {target:=.fn (.func f) #[],args:=args.toArray} w:=by
   show Result.ok ({target:=.fn (.func f) #[],args:= #[]++Array.map (ev n l) xs}:Deferred) w=_
   rw [hm,Array.empty_append]
  simp only [execOp,ho,Sem.run_bind,h1,Result.andThen_ok]
  show (callFunc f _).run P w=_
  exact hf.out _ _
 rw [e]
 show Calls P f args.toArray w _
 refine h.mono fun e w' ⟨v,he,hh⟩=>?_
 subst he
 show wpList P ops Q rest _ w'
 rw [hd,al_put]
 exact hh
theorem al_lss {t t':TypeId} {x y:Operand} {k:IntKind} {p q:Int} (ho:o.op=.binOp .lss t x y t') (hd:o.dst=some d) (hw:wantedL ops n l o=some true) (hx:ev n l x=.int k p) (hy:ev n l y=.int k q)
 (h1:p<q->wpList P ops Q rest (alAct n ((d,.bool true)::l) ds) w) (h2: ¬ p<q->wpList P ops Q rest (alAct n ((d,.bool false)::l) ds) w):wpList P ops Q (o::rest) (alAct n l ds) w:=
 au_lss ho (wanted_of hw) (by rw [ev_eq];exact hx) (by rw [ev_eq];exact hy) (fun h=>by rw [hd,al_put];exact h1 h) (fun h=>by rw [hd,al_put];exact h2 h)
theorem al_leq {t t':TypeId} {x y:Operand} {k:IntKind} {p q:Int} (ho:o.op=.binOp .leq t x y t') (hd:o.dst=some d) (hw:wantedL ops n l o=some true) (hx:ev n l x=.int k p) (hy:ev n l y=.int k q)
 (h1:p<=q->wpList P ops Q rest (alAct n ((d,.bool true)::l) ds) w) (h2: ¬ p<=q->wpList P ops Q rest (alAct n ((d,.bool false)::l) ds) w):wpList P ops Q (o::rest) (alAct n l ds) w:=
 au_leq ho (wanted_of hw) (by rw [ev_eq];exact hx) (by rw [ev_eq];exact hy) (fun h=>by rw [hd,al_put];exact h1 h) (fun h=>by rw [hd,al_put];exact h2 h)
theorem al_gtr {t t':TypeId} {x y:Operand} {k:IntKind} {p q:Int} (ho:o.op=.binOp .gtr t x y t') (hd:o.dst=some d) (hw:wantedL ops n l o=some true) (hx:ev n l x=.int k p) (hy:ev n l y=.int k q)
 (h1:q<p->wpList P ops Q rest (alAct n ((d,.bool true)::l) ds) w) (h2: ¬ q<p->wpList P ops Q rest (alAct n ((d,.bool false)::l) ds) w):wpList P ops Q (o::rest) (alAct n l ds) w:=
 au_gtr ho (wanted_of hw) (by rw [ev_eq];exact hx) (by rw [ev_eq];exact hy) (fun h=>by rw [hd,al_put];exact h1 h) (fun h=>by rw [hd,al_put];exact h2 h)
theorem al_geq {t t':TypeId} {x y:Operand} {k:IntKind} {p q:Int} (ho:o.op=.binOp .geq t x y t') (hd:o.dst=some d) (hw:wantedL ops n l o=some true) (hx:ev n l x=.int k p) (hy:ev n l y=.int k q)
 (h1:q<=p->wpList P ops Q rest (alAct n ((d,.bool true)::l) ds) w) (h2: ¬ q<=p->wpList P ops Q rest (alAct n ((d,.bool false)::l) ds) w):wpList P ops Q (o::rest) (alAct n l ds) w:=
 au_geq ho (wanted_of hw) (by rw [ev_eq];exact hx) (by rw [ev_eq];exact hy) (fun h=>by rw [hd,al_put];exact h1 h) (fun h=>by rw [hd,al_put];exact h2 h)
theorem al_eql {t t':TypeId} {x y:Operand} {k:IntKind} {p q:Int} (ho:o.op=.binOp .eql t x y t') (hd:o.dst=some d) (hw:wantedL ops n l o=some true) (hx:ev n l x=.int k p) (hy:ev n l y=.int k q)
 (h1:p<=q/\q<=p->wpList P ops Q rest (alAct n ((d,.bool true)::l) ds) w) (h2: ¬ p=q->wpList P ops Q rest (alAct n ((d,.bool false)::l) ds) w):wpList P ops Q (o::rest) (alAct n l ds) w:=
 au_eql ho (wanted_of hw) (by rw [ev_eq];exact hx) (by rw [ev_eq];exact hy) (fun h=>by rw [hd,al_put];exact h1 h) (fun h=>by rw [hd,al_put];exact h2 h)
theorem al_neq {t t':TypeId} {x y:Operand} {k:IntKind} {p q:Int} (ho:o.op=.binOp .neq t x y t') (hd:o.dst=some d) (hw:wantedL ops n l o=some true) (hx:ev n l x=.int k p) (hy:ev n l y=.int k q)
 (h1:p<=q/\q<=p->wpList P ops Q rest (alAct n ((d,.bool false)::l) ds) w) (h2: ¬ p=q->wpList P ops Q rest (alAct n ((d,.bool true)::l) ds) w):wpList P ops Q (o::rest) (alAct n l ds) w:=
 au_neq ho (wanted_of hw) (by rw [ev_eq];exact hx) (by rw [ev_eq];exact hy) (fun h=>by rw [hd,al_put];exact h1 h) (fun h=>by rw [hd,al_put];exact h2 h)
theorem al_eqlL {t yt:TypeId} {x y:Operand} {ks:List (Option IntKind)} {xs ys:List Value} [ht:EqT P t ks] (ho:o.op=.binOp .eql t x y yt) (hd:o.dst=some d) (hw:wantedL ops n l o=some true) (hx:ev n l x=.agg xs.toArray) (hy:ev n l y=.agg ys.toArray)
 (kx:ofKinds ks xs=true) (ky:ofKinds ks ys=true) (h1:cellsEq xs ys=true->wpList P ops Q rest (alAct n ((d,.bool true)::l) ds) w) (h2:cellsEq xs ys=false->wpList P ops Q rest (alAct n ((d,.bool false)::l) ds) w):wpList P ops Q (o::rest) (alAct n l ds) w:=
 au_eqlL ho (wanted_of hw) (by rw [ev_eq];exact hx) (by rw [ev_eq];exact hy) kx ky (fun h=>by rw [hd,al_put];exact h1 h) (fun h=>by rw [hd,al_put];exact h2 h)
theorem al_neqL {t yt:TypeId} {x y:Operand} {ks:List (Option IntKind)} {xs ys:List Value} [ht:EqT P t ks] (ho:o.op=.binOp .neq t x y yt) (hd:o.dst=some d) (hw:wantedL ops n l o=some true) (hx:ev n l x=.agg xs.toArray) (hy:ev n l y=.agg ys.toArray)
 (kx:ofKinds ks xs=true) (ky:ofKinds ks ys=true) (h1:cellsEq xs ys=true->wpList P ops Q rest (alAct n ((d,.bool false)::l) ds) w) (h2:cellsEq xs ys=false->wpList P ops Q rest (alAct n ((d,.bool true)::l) ds) w):wpList P ops Q (o::rest) (alAct n l ds) w:=
 au_neqL ho (wanted_of hw) (by rw [ev_eq];exact hx) (by rw [ev_eq];exact hy) kx ky (fun h=>by rw [hd,al_put];exact h1 h) (fun h=>by rw [hd,al_put];exact h2 h)
class SameCells (xs ys:List Value) (p:outParam Prop):Prop where
 out:cellsEq xs ys=true ↔ p
instance {a b c d:Int}:SameCells [.int .i64 a,.int .i64 b] [.int .i64 c,.int .i64 d] ((⟨a,b⟩:Cell)=⟨c,d⟩):=⟨by rw [show [Value.int .i64 a,.int .i64 b]=(⟨a,b⟩:Cell).cells from rfl,show [Value.int .i64 c,.int .i64 d]=(⟨c,d⟩:Cell).cells from rfl,Cell.eq];simp⟩
instance {a b c d:Int} {p q:Bool}:SameCells [.int .i64 a,.int .i64 b,.bool p] [.int .i64 c,.int .i64 d,.bool q] ((⟨⟨a,b⟩,p⟩:Pose)=⟨⟨c,d⟩,q⟩):=⟨by rw [show [Value.int .i64 a,.int .i64 b,.bool p]=(⟨⟨a,b⟩,p⟩:Pose).cells from rfl,show [Value.int .i64 c,.int .i64 d,.bool q]=(⟨⟨c,d⟩,q⟩:Pose).cells from rfl,Pose.eq];simp only [decide_eq_true_eq]⟩
theorem al_eqlS {t yt:TypeId} {x y:Operand} {ks:List (Option IntKind)} {xs ys:List Value} {p:Prop} [ht:EqT P t ks] [hs:SameCells xs ys p] (ho:o.op=.binOp .eql t x y yt) (hd:o.dst=some d) (hw:wantedL ops n l o=some true) (hx:ev n l x=.agg xs.toArray) (hy:ev n l y=.agg ys.toArray)
 (kx:ofKinds ks xs=true) (ky:ofKinds ks ys=true) (h1:p->wpList P ops Q rest (alAct n ((d,.bool true)::l) ds) w) (h2: ¬ p->wpList P ops Q rest (alAct n ((d,.bool false)::l) ds) w):wpList P ops Q (o::rest) (alAct n l ds) w:=
 al_eqlL ho hd hw hx hy kx ky (fun h=>h1 (hs.out.1 h)) (fun h=>h2 fun hp=>by rw [hs.out.2 hp] at h;cases h)
theorem al_neqS {t yt:TypeId} {x y:Operand} {ks:List (Option IntKind)} {xs ys:List Value} {p:Prop} [ht:EqT P t ks] [hs:SameCells xs ys p] (ho:o.op=.binOp .neq t x y yt) (hd:o.dst=some d) (hw:wantedL ops n l o=some true) (hx:ev n l x=.agg xs.toArray) (hy:ev n l y=.agg ys.toArray)
 (kx:ofKinds ks xs=true) (ky:ofKinds ks ys=true) (h1:p->wpList P ops Q rest (alAct n ((d,.bool false)::l) ds) w) (h2: ¬ p->wpList P ops Q rest (alAct n ((d,.bool true)::l) ds) w):wpList P ops Q (o::rest) (alAct n l ds) w:=
 al_neqL ho hd hw hx hy kx ky (fun h=>h1 (hs.out.1 h)) (fun h=>h2 fun hp=>by rw [hs.out.2 hp] at h;cases h)
theorem al_eqlN {t t':TypeId} {x y:Operand} [hp:PtrT P t] (ho:o.op=.binOp .eql t x y t') (hd:o.dst=some d) (hw:wantedL ops n l o=some true) (hx:ev n l x=.pointer none) (hy:ev n l y=.pointer none) (h:wpList P ops Q rest (alAct n ((d,.bool true)::l) ds) w):wpList P ops Q (o::rest) (alAct n l ds) w:=
 al_val hd hw (by
  simp only [execOp,ho,hx,hy]
  simp [go_sem,run_eql_pointer_nil _ t _ hp.out]) h
theorem al_eqlP {t t':TypeId} {x y:Operand} [hp:PtrT P t] {a:Addr} (ho:o.op=.binOp .eql t x y t') (hd:o.dst=some d) (hw:wantedL ops n l o=some true) (hx:ev n l x=.pointer (some a)) (hy:ev n l y=.pointer none) (h:wpList P ops Q rest (alAct n ((d,.bool false)::l) ds) w):wpList P ops Q (o::rest) (alAct n l ds) w:=
 al_val hd hw (by
  simp only [execOp,ho,hx,hy]
  simp [go_sem,run_eql_pointer_nil _ t _ hp.out]) h
theorem al_neqN {t t':TypeId} {x y:Operand} [hp:PtrT P t] (ho:o.op=.binOp .neq t x y t') (hd:o.dst=some d) (hw:wantedL ops n l o=some true) (hx:ev n l x=.pointer none) (hy:ev n l y=.pointer none) (h:wpList P ops Q rest (alAct n ((d,.bool false)::l) ds) w):wpList P ops Q (o::rest) (alAct n l ds) w:=
 al_val hd hw (by
  simp only [execOp,ho,hx,hy]
  simp [go_sem,run_neq_pointer_nil _ t _ hp.out]) h
theorem al_neqP {t t':TypeId} {x y:Operand} [hp:PtrT P t] {a:Addr} (ho:o.op=.binOp .neq t x y t') (hd:o.dst=some d) (hw:wantedL ops n l o=some true) (hx:ev n l x=.pointer (some a)) (hy:ev n l y=.pointer none) (h:wpList P ops Q rest (alAct n ((d,.bool true)::l) ds) w):wpList P ops Q (o::rest) (alAct n l ds) w:=
 al_val hd hw (by
  simp only [execOp,ho,hx,hy]
  simp [go_sem,run_neq_pointer_nil _ t _ hp.out]) h
section
variable {w0:World} {F:Nat->Prop} {M L:List Res}
theorem al_load {t:TypeId} {x:Operand} {b k:Nat} {v:Value} {cs:List Value} {T:TypeId} (hK:Know w0 w F M L) (ho:o.op=.load t x) (hd:o.dst=some d) (hw:wantedL ops n l o=some true) (hx:ev n l x=.pointer (some ⟨b,k,none⟩)) (ht:scalarB P t=true) (hm:MemB b cs T M\/MemB b cs T L) (hv:cs[k]?=some v) (h:wpList P ops Q rest (alAct n ((d,v)::l) ds) w):wpList P ops Q (o::rest) (alAct n l ds) w:=
 wl_loadK hK ho (wanted_of hw) (by rw [ev_eq];exact hx) ht hm hv (by rw [hd,al_put];exact h)
theorem al_loadS {t:TypeId} {x:Operand} {b n':Nat} {cs:List Value} {T:TypeId} (hK:Know w0 w F M L) (ho:o.op=.load t x) (hd:o.dst=some d) (hw:wantedL ops n l o=some true) (hx:ev n l x=.pointer (some ⟨b,0,none⟩)) (ht:aggB P t n'=true) (hm:MemB b cs T M\/MemB b cs T L) (hn:cs.length=n') (h:wpList P ops Q rest (alAct n ((d,.agg cs.toArray)::l) ds) w):wpList P ops Q (o::rest) (alAct n l ds) w:=
 wl_loadSK hK ho (wanted_of hw) (by rw [ev_eq];exact hx) ht hm hn (by rw [hd,al_put];exact h)
theorem al_loadP {t:TypeId} {x:Operand} {b k n':Nat} {cs vs:List Value} {T:TypeId} (hK:Know w0 w F M L) (ho:o.op=.load t x) (hd:o.dst=some d) (hw:wantedL ops n l o=some true) (hx:ev n l x=.pointer (some ⟨b,k,none⟩)) (ht:aggB P t n'=true) (hm:MemB b cs T M\/MemB b cs T L) (hc:Cut cs k n' vs) (h:wpList P ops Q rest (alAct n ((d,.agg vs.toArray)::l) ds) w):wpList P ops Q (o::rest) (alAct n l ds) w:=
 au_loadP hK ho (wanted_of hw) (by rw [ev_eq];exact hx) ht hm hc (by rw [hd,al_put];exact h)
theorem al_loadA {t:TypeId} {x:Operand} {b k j:Nat} {v:Value} {cs:List Value} (ho:o.op=.load t x) (hd:o.dst=some d) (hw:wantedL ops n l o=some true) (hx:ev n l x=.pointer (some ⟨b,k+j,none⟩)) (ht:scalarB P t=true) (ha:At w b k cs) (hv:cs[j]?=some v) (h:wpList P ops Q rest (alAct n ((d,v)::l) ds) w):wpList P ops Q (o::rest) (alAct n l ds) w:=
 wl_loadA ho (wanted_of hw) (by rw [ev_eq];exact hx) ht ha hv (by rw [hd,al_put];exact h)
theorem al_loadA0 {t:TypeId} {x:Operand} {b k:Nat} {v:Value} {cs:List Value} (ho:o.op=.load t x) (hd:o.dst=some d) (hw:wantedL ops n l o=some true) (hx:ev n l x=.pointer (some ⟨b,k,none⟩)) (ht:scalarB P t=true) (ha:At w b k cs) (hv:cs[0]?=some v) (h:wpList P ops Q rest (alAct n ((d,v)::l) ds) w):wpList P ops Q (o::rest) (alAct n l ds) w:=
 wl_loadA0 ho (wanted_of hw) (by rw [ev_eq];exact hx) ht ha hv (by rw [hd,al_put];exact h)
theorem al_loadSA {t:TypeId} {x:Operand} {b k n':Nat} {cs:List Value} (ho:o.op=.load t x) (hd:o.dst=some d) (hw:wantedL ops n l o=some true) (hx:ev n l x=.pointer (some ⟨b,k,none⟩)) (ht:aggB P t n'=true) (ha:At w b k cs) (hn:cs.length=n') (h:wpList P ops Q rest (alAct n ((d,.agg cs.toArray)::l) ds) w):wpList P ops Q (o::rest) (alAct n l ds) w:=
 wl_loadSA ho (wanted_of hw) (by rw [ev_eq];exact hx) ht ha hn (by rw [hd,al_put];exact h)
theorem al_store {t:TypeId} {x y:Operand} {b k:Nat} {v:Value} {cs cs':List Value} {T:TypeId} {M':List Res} (hK:Know w0 w F M L) (ho:o.op=.store t x y) (hd:o.dst=none) (hw:wantedL ops n l o=some true) (hx:ev n l x=.pointer (some ⟨b,k,none⟩)) (hy:Vis (ev n l y) v)
 (ht:sizeB P t 1=true) (hv:v.oneCell'=true) (_:MemB b cs T M) (hp:Put cs k [v] cs') (hM:Turned b cs T cs' M M') (h: ∀ w',Know w0 w' F M' L->wpList P ops Q rest (alAct n l ds) w'):wpList P ops Q (o::rest) (alAct n l ds) w:=
 au_store hK ho (wanted_of hw) (by rw [ev_eq];exact hx) (by rw [ev_eq];exact hy.eq) ht hv hp hM (fun w' hk=>by rw [hd];exact h w' hk)
theorem al_storeP {t:TypeId} {x y:Operand} {b k:Nat} {cs vs cs':List Value} {T:TypeId} {M':List Res} (hK:Know w0 w F M L) (ho:o.op=.store t x y) (hd:o.dst=none) (hw:wantedL ops n l o=some true) (hx:ev n l x=.pointer (some ⟨b,k,none⟩)) (hy:ev n l y=.agg vs.toArray)
 (ht:sizeB P t vs.length=true) (hv:vs.all (·.oneCell')=true) (_:MemB b cs T M) (hp:Put cs k vs cs') (hM:Turned b cs T cs' M M') (h: ∀ w',Know w0 w' F M' L->wpList P ops Q rest (alAct n l ds) w'):wpList P ops Q (o::rest) (alAct n l ds) w:=
 au_storeP hK ho (wanted_of hw) (by rw [ev_eq];exact hx) (by rw [ev_eq];exact hy) ht hv hp hM (fun w' hk=>by rw [hd];exact h w' hk)
theorem al_alloc {t:TypeId} {z:Value} {zs:List Value} [hz:ZeroT P t z] (hK:Know w0 w F M L) (ho:o.op=.alloc t) (hd:o.dst=some d) (hw:wantedL ops n l o=some true) (hs:CellsOf z zs)
 (h: ∀ (w':World) (b:Nat),Know w0 w' F (rBlk b zs t::M) L->wpList P ops Q rest (alAct n ((d,.pointer (some ⟨b,0,none⟩))::l) ds) w'):wpList P ops Q (o::rest) (alAct n l ds) w:=
 au_alloc hK ho (wanted_of hw) hs (fun w' b hk=>by rw [hd,al_put];exact h w' b hk)
theorem al_box {t:TypeId} {x:Operand} {zs:List Value} (hK:Know w0 w F M L) (ho:o.op=.box t x) (hd:o.dst=some d) (hw:wantedL ops n l o=some true) (hs:CellsOf (ev n l x) zs)
 (h: ∀ (w':World) (b:Nat),Know w0 w' F (rBlk b zs t::M) L->wpList P ops Q rest (alAct n ((d,.pointer (some ⟨b,0,none⟩))::l) ds) w'):wpList P ops Q (o::rest) (alAct n l ds) w:=
 au_box hK ho (wanted_of hw) (by rw [ev_eq]) hs (fun w' b hk=>by rw [hd,al_put];exact h w' b hk)
theorem al_build {t:TypeId} {parts:Array (Nat×Operand)} {zs r:List Value} {ps:List (Nat×Nat)} [hB:PlacesT P t zs ps] (ho:o.op=.build t parts) (hd:o.dst=some d) (hw:wantedL ops n l o=some true) (hs:SetParts ps zs (parts.toList.map fun (i,x)=>(i,ev n l x)) r) (h:wpList P ops Q rest (alAct n ((d,.agg r.toArray)::l) ds) w):wpList P ops Q (o::rest) (alAct n l ds) w:=
 au_build ho (wanted_of hw) (by rw [ev_eq,Array.toList_map];exact hs) (by rw [hd,al_put];exact h)
theorem al_ix {α:Type} {E:El α} {t e:TypeId} {x y:Operand} {n' c i:Nat} {ad:Option Addr} {kd:IntKind} {xs:List α} {u:α} [hs:SlT P t e] (hK:Know w0 w F M L) (ho:o.op=.indexAddr t x y) (hd:o.dst=some d) (hw:wantedL ops n l o=some true) (hx:ev n l x=.slice ad n' c) (hy:ev n l y=.int kd (i:Int))
 (hm:MemS E (.slice ad n' c) xs M\/MemS E (.slice ad n' c) xs L) (hsz:sizeB P e E.sz=true) (hu:xs[i]?=some u)
 (h: ∀ b k,At w b k (E.cells u)->wpList P ops Q rest (alAct n ((d,.pointer (some ⟨b,k,none⟩))::l) ds) w):wpList P ops Q (o::rest) (alAct n l ds) w:=
 wl_ixK hK ho (wanted_of hw) (by rw [ev_eq];exact hx) (by rw [ev_eq];exact hy) hs.out hsz hm hu fun b k ha=>by rw [hd,al_put];exact h b k ha
theorem al_app {α:Type} {E:El α} {s x:Operand} {t e:TypeId} {zs:List Value} {bytes j n1 c1 n2 c2:Nat} {a1 a2:Option Addr} {xs ys:List α} (hK:Know w0 w F M L) (T:SliceTy P t e E.sz bytes zs) (ho:o.op=.call ⟨.builtin .append,#[s,x],#[t,t]⟩) (hd:o.dst=some d) (hw:wantedL ops n l o=some true) (hs:ev n l s=.slice a1 n1 c1) (hx:ev n l x=.slice a2 n2 c2)
 (hsl:Rd w E (.slice a2 n2 c2) ys) (hm:xs.length+ys.length<=maxLen) (hb:(xs.length+ys.length)*bytes<=140737488355328)
 (hi:Ix M (rOw e E (.slice a1 n1 c1) xs) j:=by repeat (first|exact Ix.head|apply Ix.tail))
 (h: ∀ ad N c w',N=(xs++ys).length->Know w0 w' F (M.set j (rOw e E (.slice ad N c) (xs++ys))) L->wpList P ops Q rest (alAct n ((d,.slice ad N c)::l) ds) w'):wpList P ops Q (o::rest) (alAct n l ds) w:=
 wl_appK hK T ho (wanted_of hw) (by rw [ev_eq];exact hs) (by rw [ev_eq];exact hx) hsl hm hb hi fun ad N c w' hN hk=>by rw [hd,al_put];exact h ad N c w' hN hk
theorem al_len {t e:TypeId} {x:Operand} {n' c:Nat} {ad:Option Addr} [hs:SlT P t e] (ho:o.op=.call ⟨.builtin .len,#[x],#[t]⟩) (hd:o.dst=some d) (hw:wantedL ops n l o=some true) (hx:ev n l x=.slice ad n' c) (h:wpList P ops Q rest (alAct n ((d,.int .i64 (n':Int))::l) ds) w):wpList P ops Q (o::rest) (alAct n l ds) w:=
 al_val hd hw (by
  have hu:=hs.out
  rw [<-ev_eq n l ds]
  refine run_bi ho fun cs=>?_
  simp only [List.map_toArray,List.map_cons,List.map_nil,ev_eq,hx]
  simp [builtin,Builtin.len_,run_underlying hu,goInt]) h
theorem al_min {x y:Operand} {ts:Array TypeId} {k:IntKind} {p q:Int} (ho:o.op=.call ⟨.builtin .min,#[x,y],ts⟩) (hd:o.dst=some d) (hw:wantedL ops n l o=some true) (hx:ev n l x=.int k p) (hy:ev n l y=.int k q) (h:wpList P ops Q rest (alAct n ((d,.int k (min p q))::l) ds) w):wpList P ops Q (o::rest) (alAct n l ds) w:=
 wl_min2 ho (wanted_of hw) (by rw [ev_eq];exact hx) (by rw [ev_eq];exact hy) (by rw [hd,al_put];exact h)
theorem al_max {x y:Operand} {ts:Array TypeId} {k:IntKind} {p q:Int} (ho:o.op=.call ⟨.builtin .max,#[x,y],ts⟩) (hd:o.dst=some d) (hw:wantedL ops n l o=some true) (hx:ev n l x=.int k p) (hy:ev n l y=.int k q) (h:wpList P ops Q rest (alAct n ((d,.int k (max p q))::l) ds) w):wpList P ops Q (o::rest) (alAct n l ds) w:=
 wl_max2 ho (wanted_of hw) (by rw [ev_eq];exact hx) (by rw [ev_eq];exact hy) (by rw [hd,al_put];exact h)
end
structure Held (G:Prop):Prop where
 out:G
structure Two (A B:Prop):Prop where
 a:A
 b:B
theorem al {G' G:Prop} (h:G') (t:G'->G:=by
 intro g
 first
 |(with_reducible refine wl_at (o:=⟨_,_,_,_,_,some _⟩) ?_
   first|exact al_pass rfl rfl g|exact al_pass0 rfl rfl g)
 |(with_reducible refine wl_at (o:=⟨_,.move _,_,_,_,_⟩) ?_
   exact al_move rfl rfl rfl (by first|exact Vis.int|exact Vis.ptr|exact Vis.bool|exact Vis.sl|exact Vis.agg|exact Vis.tup|exact Vis.refl) g)
 |(with_reducible refine wl_at (o:=⟨_,.assign _,_,_,_,_⟩) ?_
   exact al_assign rfl rfl rfl (by first|exact Vis.int|exact Vis.ptr|exact Vis.bool|exact Vis.sl|exact Vis.agg|exact Vis.tup|exact Vis.refl) g)
 |(with_reducible refine wl_at (o:=⟨_,.nilCheck _,_,_,_,_⟩) ?_
   exact al_nilCheck rfl rfl rfl rfl g)
 |(with_reducible refine wl_at (o:=⟨_,.fieldAddr _ _ _,_,_,_,_⟩) ?_
   first|exact al_field rfl rfl rfl rfl (by simp only [Nat.reduceAdd,Nat.add_zero]) g|exact al_field rfl rfl rfl rfl rfl g)
 |(with_reducible refine wl_at (o:=⟨_,.load _ _,_,_,_,_⟩) ?_
   first
   |exact al_load hK rfl rfl rfl rfl (scalT (by decide)) (by first|(left;repeat (first|exact MemB.head|apply MemB.tail));done|(right;repeat (first|exact MemB.head|apply MemB.tail));done) rfl g
   |exact al_loadS hK rfl rfl rfl rfl (aggT (by decide)) (by first|(left;repeat (first|exact MemB.head|apply MemB.tail));done|(right;repeat (first|exact MemB.head|apply MemB.tail));done) rfl g
   |exact al_loadP hK rfl rfl rfl rfl (aggT (by decide)) (by first|(left;repeat (first|exact MemB.head|apply MemB.tail));done|(right;repeat (first|exact MemB.head|apply MemB.tail));done) (by repeat (first|exact Cut.nil|apply Cut.take|apply Cut.drop)) g
   |exact al_loadA0 rfl rfl rfl rfl (scalT (by decide)) (by assumption) rfl g
   |exact al_loadA rfl rfl rfl rfl (scalT (by decide)) (by assumption) rfl g
   |exact al_loadSA rfl rfl rfl rfl (aggT (by decide)) (by assumption) rfl g)
 |(with_reducible refine wl_at (o:=⟨_,.store _ _ _,_,_,_,_⟩) ?_
   first
   |exact al_store hK rfl rfl rfl rfl (by first|exact Vis.int|exact Vis.ptr|exact Vis.bool|exact Vis.sl|exact Vis.agg|exact Vis.tup|exact Vis.refl) (sizT (by decide)) (by rfl) (by repeat (first|exact MemB.head|apply MemB.tail)) (by repeat (first|exact Put.nil|apply Put.take|apply Put.drop)) (by repeat (first|exact Turned.head|apply Turned.tail)) g
   |exact al_storeP hK rfl rfl rfl rfl rfl (aggS (by decide)) rfl (by repeat (first|exact MemB.head|apply MemB.tail)) (by repeat (first|exact Put.nil|apply Put.take|apply Put.drop)) (by repeat (first|exact Turned.head|apply Turned.tail)) g)
 |(with_reducible refine wl_at (o:=⟨_,.pick _ _ _,_,_,_,_⟩) ?_
   first|exact al_pickT rfl rfl rfl rfl (by first|exact Vis.int|exact Vis.ptr|exact Vis.bool|exact Vis.sl|exact Vis.agg|exact Vis.tup|exact Vis.refl) g|exact al_pickF rfl rfl rfl rfl (by first|exact Vis.int|exact Vis.ptr|exact Vis.bool|exact Vis.sl|exact Vis.agg|exact Vis.tup|exact Vis.refl) g)
 |(with_reducible refine wl_at (o:=⟨_,.extract _ _,_,_,_,_⟩) ?_
   exact al_extract rfl rfl rfl rfl rfl g)
 |(with_reducible refine wl_at (o:=⟨_,.box _ _,_,_,_,_⟩) ?_
   exact al_box hK rfl rfl rfl (by first|exact CellsOf.agg|exact CellsOf.int|exact CellsOf.bool|exact CellsOf.ptr|exact CellsOf.sl|exact CellsOf.one rfl) g)
 |(with_reducible refine wl_at (o:=⟨_,.alloc _,_,_,_,_⟩) ?_
   exact al_alloc hK rfl rfl rfl (by first|exact CellsOf.agg|exact CellsOf.int|exact CellsOf.bool|exact CellsOf.ptr|exact CellsOf.sl|exact CellsOf.one rfl) g)
 |(with_reducible refine wl_at (o:=⟨_,.build _ _,_,_,_,_⟩) ?_
   exact al_build rfl rfl rfl (by repeat (first|exact SetParts.nil|(apply SetParts.cons;rfl;(first|exact CellsOf.agg|exact CellsOf.int|exact CellsOf.bool|exact CellsOf.ptr|exact CellsOf.sl|exact CellsOf.one rfl);rfl;(repeat (first|exact Put.nil|apply Put.take|apply Put.drop))))) g)
 |(with_reducible refine wl_at (o:=⟨_,.unOp .not _ _,_,_,_,_⟩) ?_
   first|exact al_notT rfl rfl rfl rfl g|exact al_notF rfl rfl rfl rfl g)
 |(with_reducible refine wl_at (o:=⟨_,.binOp .add _ _ _ _,_,_,_,_⟩) ?_
   exact al_add rfl rfl rfl rfl rfl (by omega) g)
 |(with_reducible refine wl_at (o:=⟨_,.binOp .sub _ _ _ _,_,_,_,_⟩) ?_
   exact al_sub rfl rfl rfl rfl rfl (by omega) g)
 |(with_reducible refine wl_at (o:=⟨_,.binOp .eql _ _ _ _,_,_,_,_⟩) ?_
   first|exact (fun (h:Two _ _)=>al_eql rfl rfl rfl rfl rfl h.a h.b) g|exact (fun (h:Two _ _)=>al_eqlS rfl rfl rfl rfl rfl rfl rfl h.a h.b) g|exact (fun (h:Two _ _)=>al_eqlL rfl rfl rfl rfl rfl rfl rfl h.a h.b) g|exact al_eqlP rfl rfl rfl rfl rfl g|exact al_eqlN rfl rfl rfl rfl rfl g)
 |(with_reducible refine wl_at (o:=⟨_,.binOp .neq _ _ _ _,_,_,_,_⟩) ?_
   first|exact (fun (h:Two _ _)=>al_neq rfl rfl rfl rfl rfl h.a h.b) g|exact (fun (h:Two _ _)=>al_neqS rfl rfl rfl rfl rfl rfl rfl h.a h.b) g|exact (fun (h:Two _ _)=>al_neqL rfl rfl rfl rfl rfl rfl rfl h.a h.b) g|exact al_neqP rfl rfl rfl rfl rfl g|exact al_neqN rfl rfl rfl rfl rfl g)
 |(with_reducible refine wl_at (o:=⟨_,.binOp .lss _ _ _ _,_,_,_,_⟩) ?_
   exact (fun (h:Two _ _)=>al_lss rfl rfl rfl rfl rfl h.a h.b) g)
 |(with_reducible refine wl_at (o:=⟨_,.binOp .leq _ _ _ _,_,_,_,_⟩) ?_
   exact (fun (h:Two _ _)=>al_leq rfl rfl rfl rfl rfl h.a h.b) g)
 |(with_reducible refine wl_at (o:=⟨_,.binOp .gtr _ _ _ _,_,_,_,_⟩) ?_
   exact (fun (h:Two _ _)=>al_gtr rfl rfl rfl rfl rfl h.a h.b) g)
 |(with_reducible refine wl_at (o:=⟨_,.binOp .geq _ _ _ _,_,_,_,_⟩) ?_
   exact (fun (h:Two _ _)=>al_geq rfl rfl rfl rfl rfl h.a h.b) g)
 |(with_reducible refine wl_at (o:=⟨_,.call ⟨.value _,_,_⟩,_,_,_,_⟩) ?_
   exact al_call rfl rfl rfl (by repeat (first|exact VisL.nil|(apply VisL.cons;(first|exact Vis.int|exact Vis.ptr|exact Vis.bool|exact Vis.sl|exact Vis.agg|exact Vis.tup|exact Vis.refl)))) g)
 |(with_reducible refine wl_at (o:=⟨_,.call ⟨.builtin _,_,_⟩,_,_,_,_⟩) ?_
   first|exact al_len rfl rfl rfl rfl g|exact al_min rfl rfl rfl rfl rfl g|exact al_max rfl rfl rfl rfl rfl g)):G:=t h
section
variable {K:Act->World->Prop} {a:Act} {x y:Code}
theorem wc_at (h:x.wp P Q a w):x.wp P Q a w:=h
theorem then_n (h:K a w):Exit.then K Q .normal a w:=h
theorem then_r (h:Q .ret a w):Exit.then K Q .ret a w:=h
theorem then_e {i:Nat} (h:Q (.exit i) a w):Exit.then K Q (.exit i) a w:=h
theorem block_n {j:Nat} (h:Q .normal a w):Exit.inBlock j Q .normal a w:=h
theorem block_r {j:Nat} (h:Q .ret a w):Exit.inBlock j Q .ret a w:=h
theorem block_e {j:Nat} (h:Q .normal a w):Exit.inBlock j Q (.exit j) a w:=by show (if j=j then _ else _);rw [if_pos rfl];exact h
theorem block_x {i j:Nat} (hn:Nat.beq i j=false) (h:Q (.exit i) a w):Exit.inBlock j Q (.exit i) a w:=by show (if i=j then _ else _);rw [if_neg (fun e=>by rw [e] at hn;simp at hn)];exact h
theorem al_condT {c:Operand} (hc:ev n l c=.bool true) (h:x.wp P Q (alAct n l ds) w):(Code.cond c x y).wp P Q (alAct n l ds) w:=wp_cond_true (by rw [ev_eq];exact hc) h
theorem al_condF {c:Operand} (hc:ev n l c=.bool false) (h:y.wp P Q (alAct n l ds) w):(Code.cond c x y).wp P Q (alAct n l ds) w:=wp_cond_false (by rw [ev_eq];exact hc) h
theorem put_at {a:Act} {o:Option Nat} {v:Value} (h:wpList P ops Q rest (a.put o v) w):wpList P ops Q rest (a.put o v) w:=h
theorem al_pt {o:Option Nat} {v:Value} (hd:o=some d) (h:wpList P ops Q rest (alAct n ((d,v)::l) ds) w):wpList P ops Q rest ((alAct n l ds).put o v) w:=by rw [hd,al_put];exact h
theorem al_pt0 {o:Option Nat} {v:Value} (hd:o=none) (h:wpList P ops Q rest (alAct n l ds) w):wpList P ops Q rest ((alAct n l ds).put o v) w:=by rw [hd];exact h
theorem ret_at {v:Value} {K:Value->Prop} (h:K v): ∃ v',Ending.returned v=.returned v'/\K v':=⟨v,rfl,h⟩
end
theorem sl {G' G:Prop} (h:G') (t:G'->G:=by
 intro g
 first
 |(with_reducible refine wc_at (x:=.seq _ _) ?_;exact wp_seq g)
 |(with_reducible refine wc_at (x:=.region _ _ false) ?_;exact wp_region_lit g)
 |(with_reducible refine wc_at (x:=.cond _ _ _) ?_;first|exact al_condT rfl g|exact al_condF rfl g)
 |(with_reducible refine wc_at (x:=.skip) ?_;exact wp_skip g)
 |(with_reducible refine wc_at (x:=.block _ _) ?_;exact wp_block g)
 |(with_reducible refine wc_at (x:=.ret) ?_;exact wp_ret g)
 |(with_reducible refine wc_at (x:=.exit _) ?_;exact wp_exit g)
 |(with_reducible refine put_at ?_;first|exact al_pt rfl g|exact al_pt0 rfl g)
 |(with_reducible exact wpList_nil g)
 |(with_reducible exact then_n g)
 |(with_reducible exact then_r g)
 |(with_reducible exact then_e g)
 |(with_reducible exact block_n g)
 |(with_reducible exact block_r g)
 |(with_reducible exact block_e g)
 |(with_reducible refine block_x (by decide) ?_;exact g)):G:=t h
def parL:Nat->List Value->List (Nat×Value)
 |_,[]=>[]
 |k,v::vs=>(k,v)::parL (k+1) vs
theorem lk_parL: ∀ (vs:List Value) (k t:Nat),lk (parL k vs) t=(if k<=t then (vs[t - k]?).getD undef else undef)
 |[],k,t=>by simp [parL,lk]
 |v::vs,k,t=>by
  rw [parL,lk]
  by_cases h:t=k
  · subst h
    simp
  · have:Nat.beq t k=false:=by
     cases e:Nat.beq t k
     · rfl
     · exact absurd (Nat.eq_of_beq_eq_true e) h
    rw [this]
    simp only
    rw [lk_parL vs (k+1) t]
    by_cases hk:k+1<=t
    · rw [if_pos hk,if_pos (by omega),show t - k=(t - (k+1))+1 by omega,List.getElem?_cons_succ]
    · rw [if_neg hk,if_neg (by omega)]
theorem calls_al {f:FuncId} {fn:Func} {c:Code} {args:List Value} {R:Ending->World->Prop} (N:Nat) (hf:P.funcs[f]?=some fn) (hb:fn.body=some c) (hN:fn.ntmps=N) (ha:args.length<=N)
 (h:c.wp P (bodyPost P fn R) (alAct N (parL 0 args) []) w):Calls P f args.toArray w R:=by
 refine calls_of_wp hf hb ?_
 have:({tmps:=args.toArray++Array.replicate (fn.ntmps - args.toArray.size) undef,defers:=[]}:Act)=alAct N (parL 0 args) []:=by
  unfold alAct
  congr 1
  apply Array.ext_getElem?
  intro t
  subst hN
  simp only [List.getElem?_toArray,List.getElem?_map,List.size_toArray,Array.getElem?_append,Array.getElem?_replicate]
  by_cases h1:t<fn.ntmps
  · rw [List.getElem?_range h1,Option.map_some,lk_parL]
    by_cases h2:t<args.length
    · rw [if_pos h2,if_pos (Nat.zero_le _)]
      simp [h2]
    · rw [if_neg h2,if_pos (by omega),if_pos (Nat.zero_le _),List.getElem?_eq_none (by omega)]
      rfl
  · rw [if_neg (by omega),if_neg (by omega),List.getElem?_eq_none (by rw [List.length_range];omega)]
    rfl
 rw [this]
 exact h
section
variable {fn:Func} {R:Ending->World->Prop}
theorem al_get {t:Nat} {v:Value} (h:ev n l (.tmp t)=v):(alAct n l ds).tmps.getD t undef=v:=by
 rw [<-h,<-ev_eq n l ds]
 rfl
theorem al_ret0 (hr:fn.results= #[]) (h:R (.returned (.tuple #[])) w):bodyPost P fn R .ret (alAct n l []) w:=bodyPost_ret (results_none hr _ _ _) rfl h
theorem al_end0 (hr:fn.results= #[]) (h:R (.returned (.tuple #[])) w):bodyPost P fn R .normal (alAct n l []) w:=bodyPost_end (results_none hr _ _ _) rfl h
theorem al_ret1 {t:Nat} {v:Value} (hr:fn.results= #[.tmp t]) (hv:Vis (ev n l (.tmp t)) v) (h:R (.returned v) w):bodyPost P fn R .ret (alAct n l []) w:=
 bodyPost_ret (results_tmp hr _ _ _) rfl (by rw [al_get hv.eq];exact h)
theorem al_stays {k t':Nat} {S:List Nat} {o:Oper} {t:TypeId} {x:Operand} {b off:Nat} {v:Value} {R:List Res} {cs:List Value} {T:TypeId} (ho:ops[k]?=some o) (hop:o.op=.load t x) (hd:o.dst=some t') (hx:ev n l x=.pointer (some ⟨b,off,none⟩)) (hs:scalarB P t=true) (hv:ev n l (.tmp t')=v)
 (hm:MemB b cs T R:=by repeat (first|exact MemB.head|apply MemB.tail)) (hc:cs[off]?=some v:=by rfl) (rest:stays P ops (fun W=> ∀ r∈R,Has W r) S (alAct n l ds)):stays P ops (fun W=> ∀ r∈R,Has W r) (k::S) (alAct n l ds):=
 stays_loadK ho hop hd (by rw [ev_eq];exact hx) hs (al_get hv) hm hc rest
theorem in_own {r:Res} {M L:List Res} (h:r∈M):r∈M++L:=List.mem_append_left _ h
theorem al_retC {p b n':Nat} {ty T:TypeId} {cs:List Value} {w0:World} {F:Nat->Prop} {M L:List Res} (hK:Know w0 w F M L) (hr:fn.results= #[.cell p ty]) (hp:ev n l (.tmp p)=.pointer (some ⟨b,0,none⟩)) (ht:aggB P ty n'=true)
 (hm:MemB b cs T M\/MemB b cs T L:=by first|(left;repeat (first|exact MemB.head|apply MemB.tail));done|(right;repeat (first|exact MemB.head|apply MemB.tail));done) (hn:cs.length=n':=by rfl) (h:R (.returned (.agg cs.toArray)) w):bodyPost P fn R .ret (alAct n l []) w:=
 bodyPost_ret (res_cellS hr _ (al_get hp) ht hn (hK.blk hm).at0) rfl h
theorem al_retC1 {p t b n':Nat} {v':Value} {ty T:TypeId} {cs:List Value} {w0:World} {F:Nat->Prop} {M L:List Res} (hK:Know w0 w F M L) (hr:fn.results= #[.cell p ty,.tmp t]) (hp:ev n l (.tmp p)=.pointer (some ⟨b,0,none⟩)) (ht:aggB P ty n'=true)
 (hm:MemB b cs T M\/MemB b cs T L:=by first|(left;repeat (first|exact MemB.head|apply MemB.tail));done|(right;repeat (first|exact MemB.head|apply MemB.tail));done) (hn:cs.length=n':=by rfl) (hv':Vis (ev n l (.tmp t)) v':=by first|exact Vis.int|exact Vis.bool|exact Vis.ptr|exact Vis.sl|exact Vis.agg|exact Vis.refl) (h:R (.returned (.tuple #[.agg cs.toArray,v'])) w):bodyPost P fn R .ret (alAct n l []) w:=
 bodyPost_ret (res_cellS_tmp hr _ (al_get hp) ht hn (hK.blk hm).at0) rfl (by rw [al_get hv'.eq];exact h)
theorem al_ret2 {t u:Nat} {v v':Value} (hr:fn.results= #[.tmp t,.tmp u]) (hv:Vis (ev n l (.tmp t)) v) (hv':Vis (ev n l (.tmp u)) v') (h:R (.returned (.tuple #[v,v'])) w):bodyPost P fn R .ret (alAct n l []) w:=
 bodyPost_ret (results_tmp2 hr _ _ _) rfl (by rw [al_get hv.eq,al_get hv'.eq];exact h)
end
end
end Go.Sk
namespace Go.Sk
open Go
def RM.goesD (c:ConfP) (i:Int) (r:RM) (t:Tele):RM×List Tele×Int:=
 if t.epoch<r.epoch then (r,[],2)
 else if r.epoch<t.epoch\/r.under.isSome then (r,[],0)
 else if 0<r.num/\t.num=r.num then (r,[r.tell i],0)
 else if t.num=r.num+1/\t.move.src=r.pose/\legalP c t.move=true/\lessP t.move.fin t.move.at_≠0 then ({r with under:=some ⟨t.move,0,lessP t.move.fin t.move.at_,false⟩},[],1)
 else (r,[],0)
def RM.hearD (c:ConfP) (k:KinP) (i:Int) (r:RM) (t:Tele):RM×List Tele×Int:=
 if t.robot≠i then (r,[],0)
 else if t.kind=1 then r.goesD c i t
 else if t.kind=2 then r.stops k i t.epoch
 else (r,[],0)
theorem RMOk.goesD {c:ConfP} {i:Int} {r:RM} {n:Int} {t:Tele} (h:RMOk c r n) (hn:0<=n):RMOk c (r.goesD c i t).1 (n+1):=by
 have h':=h.more (show n<=n+1 by omega)
 unfold RM.goesD
 split
 · exact h'
 · split
   · exact h'
   · rename_i h2
     split
     · exact h'
     · split
       · rename_i h4
         obtain ⟨_,h5,h6,h8⟩:=h4
         have hb:=lessP_bd t.move.fin t.move.at_
         have hu:r.under=none:=by cases hu:r.under with|none=>rfl|some u=>exact absurd (.inr (by rw [hu];rfl)) h2
         have hs:WfP t.move.src:=by rw [h5];exact h.pose
         refine ⟨h'.num,h'.epoch,h'.delay,h'.pose,fun u hu=>?_,(fun hu=>by cases hu),h'.halt⟩
         cases hu
         exact ⟨Int.le_refl _,by show (0:Int)<=n+1;omega,by show 1<=lessP _ _;omega,hb.2,fun _=>h6,hs,legal_dst h6 hs⟩
       · exact h'
theorem RMOk.hearD {c:ConfP} {k:KinP} {i:Int} {r:RM} {n:Int} {t:Tele} (hk:k.Ok) (h:RMOk c r n) (hn:0<=n):RMOk c (r.hearD c k i t).1 (n+1):=by
 have h':=h.more (show n<=n+1 by omega)
 unfold RM.hearD
 split
 · exact h'
 · split
   · exact h.goesD hn
   · split
     · exact h.stops hk hn
     · exact h'
end Go.Sk
namespace Go.Sk
open Go
section
variable {P:Program} {ops:Array Oper} {Q:Exit->Act->World->Prop} {o:Oper} {rest:List Oper} {n d:Nat} {l:List (Nat×Value)} {ds:List Deferred} {w:World}
theorem al_addW {t t':TypeId} {x y:Operand} {p q:Int} (ho:o.op=.binOp .add t x y t') (hd:o.dst=some d) (hw:wantedL ops n l o=some true) (hx:ev n l x=.int .i64 p) (hy:ev n l y=.int .i64 q)
 (h:wpList P ops Q rest (alAct n ((d,.int .i64 (IntKind.i64.wrap (p+q)))::l) ds) w):wpList P ops Q (o::rest) (alAct n l ds) w:=
 al_val hd hw (by
  simp only [execOp,ho,hx,hy]
  simp only [go_sem,Sem.run_bind,Sem.run_pure,Result.andThen_ok]) h
theorem al_quo {t t':TypeId} {x y:Operand} {p q:Int} (ho:o.op=.binOp .quo t x y t') (hd:o.dst=some d) (hw:wantedL ops n l o=some true) (hx:ev n l x=.int .i64 p) (hy:ev n l y=.int .i64 q) (hq:(q == 0)=false)
 (h:wpList P ops Q rest (alAct n ((d,.int .i64 (IntKind.i64.wrap (p.tdiv q)))::l) ds) w):wpList P ops Q (o::rest) (alAct n l ds) w:=
 al_val hd hw (by
  simp only [execOp,ho,hx,hy]
  have hq': ¬ q=0:=fun e=>by rw [e] at hq;cases hq
  simp [go_sem,hq',Sem.run_bind,Sem.run_pure,Result.andThen_ok]) h
theorem put2_at {a:Act} {o1 o2:Option Nat} {v1 v2:Value} (h:wpList P ops Q rest ((a.put o1 v1).put o2 v2) w):wpList P ops Q rest ((a.put o1 v1).put o2 v2) w:=h
theorem al_staysP {k t' b off n':Nat} {S:List Nat} {o:Oper} {t:TypeId} {x:Operand} {R:List Res} {cs vs:List Value} {T:TypeId} (ho:ops[k]?=some o) (hop:o.op=.load t x) (hd:o.dst=some t') (hx:ev n l x=.pointer (some ⟨b,off,none⟩)) (hs:aggB P t n'=true) (hv:ev n l (.tmp t')=.agg vs.toArray)
 (hm:MemB b cs T R:=by repeat (first|exact MemB.head|apply MemB.tail)) (hc:Cut cs off n' vs:=by repeat (first|exact Cut.nil|apply Cut.take|apply Cut.drop)) (rest:stays P ops (fun W=> ∀ r∈R,Has W r) S (alAct n l ds)):stays P ops (fun W=> ∀ r∈R,Has W r) (k::S) (alAct n l ds):=
 stays_loadSP vs ho hop hd (by rw [ev_eq];exact hx) hs hm hc.eq.1 hc.eq.2 (al_get hv) rest
end
theorem in_lent {r:Res} {M L:List Res} (h:r∈L):r∈M++L:=List.mem_append_right _ h
theorem Know.lend {w0 w:World} {F:Nat->Prop} {r:Res} {M L:List Res} (h:Know w0 w F (r::M) L):Know w0 w F M (r::L):=by
 obtain ⟨hm,U,⟨S1,V,h1,h2,h3,h4⟩,h5,h6⟩:=h
 refine ⟨hm,V,h2,fun b hb=>h5 b ((h4 b).2 (.inr hb)),fun x hx=>?_⟩
 rcases List.mem_cons.1 hx with rfl|hx
 · exact ⟨S1,h1,fun b hb hv=>h3 b hb hv⟩
 · obtain ⟨T,i1,i2⟩:=h6 x hx
   exact ⟨T,i1,fun b hb hv=>i2 b hb ((h4 b).2 (.inr hv))⟩
section
variable {P:Program} {ops:Array Oper} {Q:Exit->Act->World->Prop} {o:Oper} {rest:List Oper} {n d:Nat} {l:List (Nat×Value)} {ds:List Deferred} {w0 w:World} {F:Nat->Prop} {M L:List Res}
theorem al_ixO {α:Type} {E:El α} {t e e':TypeId} {x y:Operand} {n' c i j:Nat} {ad:Option Addr} {kd:IntKind} {xs:List α} {u:α} [hs:SlT P t e] (hK:Know w0 w F M L) (ho:o.op=.indexAddr t x y) (hd:o.dst=some d) (hw:wantedL ops n l o=some true) (hx:ev n l x=.slice ad n' c) (hy:ev n l y=.int kd (i:Int)) (hsz:sizeB P e E.sz=true) (hu:xs[i]?=some u)
 (hi:Ix M (rOw e' E (.slice ad n' c) xs) j:=by repeat (first|exact Ix.head|apply Ix.tail))
 (h: ∀ b k,At w b k (E.cells u)->Spot E (.slice ad n' c) b k i->wpList P ops Q rest (alAct n ((d,.pointer (some ⟨b,k,none⟩))::l) ds) w):wpList P ops Q (o::rest) (alAct n l ds) w:=
 wl_ixO hK ho (wanted_of hw) (by rw [ev_eq];exact hx) (by rw [ev_eq];exact hy) hs.out hsz hi hu fun b k ha hp=>by rw [hd,al_put];exact h b k ha hp
theorem At.cut {w:World} {b k:Nat} {cs cur:List Value} {T:TypeId} (hA:At w b k cs) (hB:Blk w b cur T) (hl:k+cs.length<=cur.length):cur=cur.take k++cs++cur.drop (k+cs.length):=by
 have e:(cur.drop k).take cs.length=cs:=by
  apply List.ext_getElem?
  intro j
  by_cases hj:j<cs.length
  · rw [List.getElem?_take_of_lt hj,List.getElem?_drop,<-hB.cell]
    obtain ⟨u,hu⟩: ∃ u,cs[j]?=some u:=⟨_,List.getElem?_eq_getElem hj⟩
    rw [hu]
    exact hA j u hu
  · rw [List.getElem?_eq_none (by rw [List.length_take];omega),List.getElem?_eq_none (by omega)]
 conv=>lhs;rw [<-List.take_append_drop k cur,<-List.take_append_drop cs.length (cur.drop k),e,List.drop_drop]
 rw [List.append_assoc]
theorem put_mid {A C C' D vs:List Value} {off:Nat} (hp:Put C off vs C'):(A++C++D).take (A.length+off)++vs++(A++C++D).drop (A.length+off+vs.length)=A++C'++D:=by
 obtain ⟨e1,e2⟩:=hp.eq
 rw [<-e1,List.append_assoc A C D,List.take_append,List.drop_append,List.take_of_length_le (by omega),List.drop_eq_nil_of_le (by omega),List.nil_append,show A.length+off - A.length=off by omega,show A.length+off+vs.length - A.length=off+vs.length by omega,List.take_append_of_le_length (by omega),List.drop_append_of_le_length (by omega)]
 simp only [List.append_assoc]
theorem al_storeEP {α:Type} {E:El α} {t e:TypeId} {x y:Operand} {b k k' off i j n' c:Nat} {v:Value} {vs:List Value} {ad:Option Addr} {xs:List α} (u u':α) (hK:Know w0 w F M L) (ho:o.op=.store t x y) (hd:o.dst=none) (hw:wantedL ops n l o=some true) (hx:ev n l x=.pointer (some ⟨b,k',none⟩)) (hk:k+off=k') (hy:ev n l y=v) (hv:CellsOf v vs)
 (ht:sizeB P t vs.length=true) (h1:vs.all (·.oneCell')=true) (hs:Spot E (.slice ad n' c) b k i) (hu:xs[i]?=some u) (hp:Put (E.cells u) off vs (E.cells u'))
 (hi:Ix M (rOw e E (.slice ad n' c) xs) j:=by repeat (first|exact Ix.head|apply Ix.tail))
 (h: ∀ w',Know w0 w' F (M.set j (rOw e E (.slice ad n' c) (xs.set i u'))) L->wpList P ops Q rest (alAct n l ds) w'):wpList P ops Q (o::rest) (alAct n l ds) w:=by
 obtain ⟨S,q1,q2⟩:=hK.stepI hi
 obtain ⟨hO,rfl⟩:=rOw_p.1 q1
 obtain ⟨hb,rfl⟩:=hs
 have hlt:i<xs.length:=(List.getElem?_eq_some_iff.1 hu).1
 obtain ⟨b',rfl,hat⟩:=hO.elem hu
 obtain rfl:b'=b:=by injection hb
 obtain ⟨cur,hB,hlen,hset⟩:=hO.cell_set hb rfl hlt
 have hcut:=hat.cut hB (by rw [E.len];exact hlen)
 rw [E.len] at hcut
 obtain ⟨e1,e2⟩:=hp.eq
 rw [E.len] at e2
 have htl:(cur.take (i*E.sz)).length=i*E.sz:=by rw [List.length_take];omega
 have hmid:=put_mid (A:=cur.take (i*E.sz)) (D:=cur.drop (i*E.sz+E.sz)) hp
 rw [<-hcut,htl,hk] at hmid
 have hfin: ∀ w',Blk w' b' (cur.take k'++vs++cur.drop (k'+vs.length)) e->Mod (only b') w w'->wpList P ops Q rest ((alAct n l ds).put o.dst undef) w':=fun w' hB' m=>by
  rw [hmid] at hB'
  rw [hd]
  exact h w' (q2 w' _ ⟨m.mono fun b'' hb''=>by cases hb'';exact hb,_,rOw_p.2 ⟨hset w' u' hB',rfl⟩,fun _ h=>.inl h⟩)
 have hx':(alAct n l ds).eval x=.pointer (some ⟨b',k',none⟩):=by rw [ev_eq];exact hx
 have hy':(alAct n l ds).eval y=v:=by rw [ev_eq];exact hy
 have one: ∀ z,vs=[z]->v=z->wpList P ops Q (o::rest) (alAct n l ds) w:=fun z hz hvz=>by
  subst hz hvz
  refine wl_store ho (wanted_of hw) hx' hy' ht (by simpa using h1) hB (by simp only [List.length_cons,List.length_nil] at e2;omega) fun w' hB' m=>hfin w' ?_ m
  rw [List.set_eq_take_append_cons_drop,if_pos (by simp only [List.length_cons,List.length_nil] at e2;omega)] at hB'
  simpa using hB'
 cases hv with
 |agg=>exact wl_storeS ho (wanted_of hw) hx' hy' ht rfl (by simpa using h1) hB (by omega) hfin
 |int=>exact one _ rfl rfl
 |bool=>exact one _ rfl rfl
 |ptr=>exact one _ rfl rfl
 |sl=>exact one _ rfl rfl
 |one=>exact one _ rfl rfl
end
inductive LiveOf (z:List (Nat×Value)):List (Nat×Value)->Prop
 |nil:LiveOf z []
 |cons {d:Nat} {v:Value} {l:List (Nat×Value)} (h:lk z d=v) (t:LiveOf z l):LiveOf z ((d,v)::l)
theorem LiveOf.lk {z l:List (Nat×Value)} (h:LiveOf z l) (t:Nat):Go.Sk.lk (l++z) t=Go.Sk.lk z t:=by
 induction h with
 |nil=>rfl
 | @cons d v l h _ ih=>
   rw [List.cons_append,Go.Sk.lk]
   cases e:Nat.beq t d
   · exact ih
   · rw [Nat.eq_of_beq_eq_true e,h]
theorem LiveOf.act {n:Nat} {z l:List (Nat×Value)} {ds:List Deferred} (h:LiveOf z l):alAct n z ds=alAct n (l++z) ds:=by
 unfold alAct
 congr 2
 exact List.map_congr_left fun t _=>(h.lk t).symm
theorem al_loop {P:Program} {c:Code} {Q:Exit->Act->World->Prop} {n:Nat} {l:List (Nat×Value)} {ds:List Deferred} {w:World} (J:Nat->List (Nat×Value)->World->Prop) (k:Nat) (live:List (Nat×Value)) (h0:LiveOf l live) (hJ:J k live w)
 (round: ∀ k live z w,J k live w->c.wp P (Exit.then (fun a' w'=> ∃ k' live' z',k=k'+1/\a'=alAct n z' ds/\LiveOf z' live'/\J k' live' w') Q) (alAct n (live++z) ds) w):(Code.loop c).wp P Q (alAct n l ds) w:=by
 rw [h0.act]
 have key: ∀ k live z w,J k live w->Code.rounds P c Q (k+1) (alAct n (live++z) ds) w:=by
  intro k
  induction k with
  |zero=>
   intro live z w h
   refine Code.wp_mono ?_ (round 0 live z w h)
   rintro e a' w' q
   cases e with
   |normal=>obtain ⟨k',_,_,hk,_⟩:=q;omega
   |_=>exact q
  |succ k ih=>
   intro live z w h
   refine Code.wp_mono ?_ (round (k+1) live z w h)
   rintro e a' w' q
   cases e with
   |normal=>
    obtain ⟨k',live',z',hk,rfl,hL,hJ'⟩:=q
    obtain rfl:k=k':=by omega
    show Code.rounds P c Q (k+1) _ w'
    rw [hL.act]
    exact ih _ _ _ hJ'
   |_=>exact q
 exact wp_loop_rounds (k+1) (key k live l w hJ)
end Go.Sk
