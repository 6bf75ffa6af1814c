/- Texts of mine that belong together: SkRef, SkKin, SkBot, SkPart, SkRange, SkCalc. -/
import Derived.Test.YtngeeilkpnihmaaGreatDoorStCZ
import Derived.ArgAppend
import Derived.Test.YtngeeilkpnihmaaGreatDoorSkBZ
import Derived.RangeFuncRecord
import Derived.Shelf.Abstract
set_option linter.all false
namespace Go.Sk
open Go
section
variable {P:Program} {ops:Array Oper} {rest:List Oper} {o:Oper} {a:Act} {w0 w:World} {F:Nat->Prop} {M L:List Res} {Q:Exit->Act->World->Prop}
theorem wl_slice3 {t e:TypeId} {x y z:Operand} {h m n c sz:Nat} {ad:Option Addr} {k2 k3:IntKind}
 (ho:o.op=.slice t x none (some y) (some z)) (hw:Region.wanted o (yielded ops a.tmps)=true) (hx:a.eval x=.slice ad n c) (hy:a.eval y=.int k2 (h:Int)) (hz:a.eval z=.int k3 (m:Int))
 (ht:P.underlying t=some (.slice e)) (hsz:sizeB P e sz=true) (h1:h<=m) (h2:m<=c)
 (hq:wpList P ops Q rest (a.put o.dst (.slice ad h m)) w):wpList P ops Q (o::rest) a w:=by
 have hr:(Instr.sliceAt t (.slice ad n c) none (some (.int k2 (h:Int))) (some (.int k3 (m:Int)))).run P w=.ok (.slice ad h m) w:=by
  have e1:(if m=0 then ad else ad.map (·.add (0*sz)))=ad:=by
   split
   · rfl
   · cases ad with
     |none=>rfl
     |some x=>simp [Addr.add_zero']
  have:(Instr.sliceAt t (.slice ad n c) none (some (.int k2 (h:Int))) (some (.int k3 (m:Int)))).run P w=.ok (.slice (if m=0 then ad else ad.map (·.add (0*sz))) h m) w:=by
   simp [Instr.sliceAt,Instr.slice,Instr.sliceBounds,Instr.sliceBound,asIntOf,run_underlying ht,run_sizeOf hsz,h1,h2]
  rw [e1] at this
  exact this
 refine wl_val hw (w':=w) (v:=.slice ad h m) ?_ hq
 simp only [execOp,ho,hx]
 rw [Sem.run_bind]
 show (Sem.run P (Instr.sliceAt t (.slice ad n c) none (some (a.eval y)) (some (a.eval z))) w).andThen _=_
 rw [hy,hz,hr]
 rfl
theorem Rd.head {α:Type} {E:El α} {ad:Option Addr} {n c:Nat} {l:List α} (h:Rd w E (.slice ad n c) l) {k m:Nat} (hk:k<=l.length) (hm:k<=m):Rd w E (.slice ad k m) (l.take k):=by
 have e:(l.take k).length=k:=by rw [List.length_take];omega
 obtain ⟨h1,ad',c',h2,h3,h4⟩:=h
 injection h2 with h2 h5 h6
 subst h2 h6
 unfold Rd
 rw [e]
 refine ⟨by rw [E.flat_len,e],ad,m,rfl,hm,?_⟩
 rcases h4 with h4|⟨b,o,rfl,hat⟩
 · left;omega
 · right
   refine ⟨b,o,rfl,?_⟩
   rw [flat_take E.cells E.sz E.len]
   exact hat.take _
theorem Rd.snug {α:Type} {E:El α} {ad:Option Addr} {n c:Nat} {l:List α} (h:Rd w E (.slice ad n c) l):Rd w E (.slice ad n n) l:=by
 have hn:=h.n
 have:=h.head (k:=n) (m:=n) (by omega) (Nat.le_refl _)
 rwa [List.take_of_length_le (by omega)] at this
theorem wl_appG {α:Type} {E:El α} {s x:Operand} {t e:TypeId} {zs:List Value} {bytes n:Nat} {ad:Option Addr} {y:Value} {xs ys:List α} (hK:Know w0 w F M L) (T:SliceTy P t e E.sz bytes zs)
 (ho:o.op=.call {callee:=.builtin .append,args:= #[s,x],argTypes:= #[t,t]}) (hw:Region.wanted o (yielded ops a.tmps)=true) (hs:a.eval s=.slice ad n n) (hx:a.eval x=y)
 (hxs:Rd w E (.slice ad n n) xs) (hsl:Rd w E y ys) (hne:ys≠[]) (hm:xs.length+ys.length<=maxLen) (hb:(xs.length+ys.length)*bytes<=140737488355328)
 (h: ∀ ad' N c w',N=(xs++ys).length->Know w0 w' F (rOw e E (.slice ad' N c) (xs++ys)::M) L->wpList P ops Q rest (a.put o.dst (.slice ad' N c)) w'):wpList P ops Q (o::rest) a w:=by
 have hn:=hxs.n
 obtain ⟨i,z,hi,hz,hzs,hsize,hby⟩:=T.ex
 obtain ⟨x1,xad,xc,rfl,x3,x4⟩:=hsl
 have hyl:ys.length≠0:=fun h=>hne (List.eq_nil_of_length_eq_zero h)
 rcases x4 with x4|⟨b,o2,rfl,hat⟩
 · exact absurd x4 hyl
 · have hsl2:Rd w E (.slice (some ⟨b,o2,none⟩) ys.length xc) ys:=⟨x1,_,_,rfl,x3,.inr ⟨b,o2,rfl,hat⟩⟩
   cases ad with
   |none=>
    have h0:n=0:=by
     obtain ⟨_,ad',c',h2,_,h4⟩:=hxs
     injection h2 with h2 h5 h6
     rcases h4 with h4|⟨b',o',h4,_⟩
     · omega
     · rw [<-h2] at h4;cases h4
    subst h0
    have hx0:xs=[]:=List.eq_nil_of_length_eq_zero hn.symm
    subst hx0
    refine wl_appN hK T ho hw hs hx hsl2 (by simpa using hm) (by simpa using hb) fun ad' N c w' k1 k2=>h ad' N c w' (by simpa using k1) (by simpa using k2)
   |some b0=>
    have hold: ∀ j u,(flat E.cells xs)[j]?=some u->w.cell? (b0.add j)=some u:=by
     obtain ⟨hxl,ad',c',h2,_,h4⟩:=hxs
     injection h2 with h2 h5 h6
     rcases h4 with h4|⟨b',o',h4,hat'⟩
     · intro j u hu
       rw [List.eq_nil_of_length_eq_zero h4] at hu
       simp [flat] at hu
     · rw [<-h2] at h4
       injection h4 with h4
       subst h4
       intro j u hu
       rw [add_at]
       exact hat' j u hu
    subst hn
    obtain ⟨v',w',hr,ho',hg⟩:=run_append_arg_grows (P:=P) w t o.type e i z E.sz bytes T.und hi hz hsize hby (by rw [hzs];simp [T.len]) T.pos b0 xs.length xs.length (flat E.cells xs) (E.flat_len xs) hold ⟨b,o2,none⟩ ys.length xc (flat E.cells ys) x1 (fun j u hu=>by rw [add_at];exact hat j u hu) (by omega) hm hb
    rw [<-flat_append,<-List.length_append] at ho'
    have hw0:Own w' e E.sz v' (xs++ys).length (flat E.cells (xs++ys)):=by
     refine ⟨ho'.1,?_⟩
     rcases ho'.2 with h0|⟨g,cap,cur,h2,h3,h4⟩
     · exact .inl h0
     · exact .inr ⟨g,cap,cur,h2,Nat.zero_le _,h4⟩
    have hOw:Ow w' e E v' (xs++ys):=hw0
    obtain ⟨ad',c',rfl⟩:=hOw.vee
    refine wl_val hw (v:=.slice ad' (xs++ys).length c') (w':=w') ?_ (h _ _ _ w' rfl (hK.push1 (Turn.own hOw (Mod.of_grown hg fun b hb=>by cases hb) fun b' hb'=>?_)))
    · unfold execOp
      simp only [ho,resolve,invoke,builtin,Sem.run_bind,Sem.run_pure,Result.andThen_ok,List.map_toArray,List.map_cons,List.map_nil,hs,hx,hr]
    · rcases ho'.2 with ⟨h0,_⟩|⟨g,cap,cur,h2,h3,h4⟩
      · rw [h0] at hb';cases hb'
      · rw [h2] at hb'
        simp only [Value.ownBlock,Option.some.injEq] at hb'
        omega
theorem wl_storeF {α:Type} {E:El α} {t e:TypeId} {x y:Operand} {b k i j d:Nat} {v:Value} {ad:Option Addr} {n c:Nat} {xs:List α} {u:α} (u':α) (hK:Know w0 w F M L) (ho:o.op=.store t x y) (hw:Region.wanted o (yielded ops a.tmps)=true) (hx:a.eval x=.pointer (some ⟨b,k+d,none⟩)) (hy:a.eval y=v)
 (ht:sizeB P t 1=true) (hv:v.oneCell'=true) (hs:Spot E (.slice ad n c) b k i) (hd:d<E.sz)
 (hu:RowKit.Hid (xs[i]?=some u)) (hc:E.cells u'=(E.cells u).set d v)
 (hi:Ix M (rOw e E (.slice ad n c) xs) j:=by repeat (first|exact Ix.head|apply Ix.tail))
 (h: ∀ w',Know w0 w' F (M.set j (rOw e E (.slice ad n c) (xs.set i u'))) L->wpList P ops Q rest (a.put o.dst undef) w'):wpList P ops Q (o::rest) a w:=by
 obtain ⟨S,h1,h2⟩:=hK.stepI hi
 obtain ⟨hO,rfl⟩:=rOw_p.1 h1
 obtain ⟨hb,rfl⟩:=hs
 have hlt:i<xs.length:=(List.getElem?_eq_some_iff.1 hu.out).1
 obtain ⟨cur,hB,hlen,hset⟩:=hO.cell_set hb rfl hlt
 obtain ⟨b',hb2,hat⟩:=hO.elem hu.out
 have hbb:b=b':=by
  rw [hb2] at hb
  simp only [Value.ownBlock,Option.some.injEq] at hb
  exact hb.symm
 subst hbb
 have hmid:(cur.drop (i*E.sz)).take E.sz=E.cells u:=by
  apply List.ext_getElem?
  intro q
  rw [List.getElem?_take]
  by_cases hq:q<E.sz
  · rw [if_pos hq,List.getElem?_drop]
    have hlq:q<(E.cells u).length:=by rw [E.len];exact hq
    have h3:=hat q _ (List.getElem?_eq_getElem hlq)
    rw [hB.cell] at h3
    rw [h3,List.getElem?_eq_getElem hlq]
  · rw [if_neg hq,List.getElem?_eq_none (by rw [E.len];omega)]
 have he:cur.set (i*E.sz+d) v=cur.take (i*E.sz)++E.cells u'++cur.drop (i*E.sz+E.sz):=by
  rw [hc,<-hmid]
  have hcut:cur=cur.take (i*E.sz)++((cur.drop (i*E.sz)).take E.sz++cur.drop (i*E.sz+E.sz)):=by
   rw [<-List.drop_drop,List.take_append_drop,List.take_append_drop]
  have l1:(cur.take (i*E.sz)).length=i*E.sz:=by rw [List.length_take];omega
  have l2:((cur.drop (i*E.sz)).take E.sz).length=E.sz:=by rw [List.length_take,List.length_drop];omega
  conv=>lhs;rw [hcut]
  rw [List.set_append,if_neg (by omega),l1,List.set_append,if_pos (by omega),List.append_assoc]
  congr 3
  omega
 exact wl_store ho hw hx hy ht hv hB (by omega) fun w' hB' m=>by
  rw [he] at hB'
  exact h w' (h2 w' _ ⟨m.mono fun b' hb'=>by cases hb';exact hb,_,rOw_p.2 ⟨hset w' u' hB',rfl⟩,fun _ h=>.inl h⟩)
end
theorem Know.callsK {P:Program} {f:FuncId} {args:Array Value} {w0 w:World} {F:Nat->Prop} {M L:List Res} {r r':Res} {v:Value} {i:Nat} (h:Know w0 w F M L) (hi:Ix M r i)
 (hc: ∀ S,Know w w S [r] L->Calls P f args w fun e w'=>e=.returned v/\Turn r' w w' S):Calls P f args w fun e w'=>e=.returned v/\Know w0 w' F (M.set i r') L:=by
 obtain ⟨A,B,rfl,hs⟩:=hi.hole
 have hK:=h
 obtain ⟨hm,U,h1,h2,h3⟩:=h
 obtain ⟨S,k1,k2,k3⟩:=h1.hole
 refine (hc S (Know.start1 k1 fun r hr=>?_)).mono fun e w' ⟨he,ht⟩=>⟨he,?_⟩
 · obtain ⟨T,i1,i2⟩:=h3 r hr
   exact ⟨T,i1,fun b hb hs=>i2 b hb (k2 b hs)⟩
 · obtain ⟨U',j1,j2⟩:=k3 w' [r'] ht.s
   rw [hs]
   refine ⟨hm.drop ht.1 fun b hb=>h2 b (k2 b hb),U',j1,fun b hb=>?_,fun r hr=>?_⟩
   · rcases j2 b hb with h|h
     · exact h2 b h
     · right;have:=hm.size;omega
   · obtain ⟨T,i1,i2⟩:=h3 r hr
     refine ⟨T,r.mod i1 ht.1 fun b hb hs=>i2 b hb (k2 b hs),fun b hb hu=>?_⟩
     rcases j2 b hu with h|h
     · exact i2 b hb h
     · have:=r.lt i1 b hb;omega
theorem rOw_rd {α:Type} {E:El α} {e:TypeId} {v:Value} {l:List α} {w:World} {S:Nat->Prop} (h:(rOw e E v l).p w S):(rRd E v l).p w S:=by
 obtain ⟨h1,rfl⟩:=rOw_p.1 h
 unfold rRd
 exact ⟨h1.rd,fun b hb _ _=>hb,fun b hb=>h1.lt b hb⟩
theorem rRd_p {α:Type} {E:El α} {v:Value} {l:List α} {w:World} {S:Nat->Prop}:(rRd E v l).p w S ↔ Rd w E v l/\(∀ b,v.ownBlock=some b->l≠[]->0<E.sz->S b)/\ ∀ b,S b->b<w.heap.size:=by unfold rRd;exact Iff.rfl
theorem rRd_head {α:Type} {E:El α} {ad:Option Addr} {n c:Nat} {l:List α} {w:World} {S:Nat->Prop} (h:(rRd E (.slice ad n c) l).p w S) {k m:Nat} (hk:k<=l.length) (hm:k<=m):(rRd E (.slice ad k m) (l.take k)).p w S:=by
 obtain ⟨h1,h2,h3⟩:=rRd_p.1 h
 refine rRd_p.2 ⟨h1.head hk hm,fun b hb hne hz=>h2 b (by cases ad with|none=>cases hb|some x=>exact hb) (fun h0=>hne (by rw [h0,List.take_nil])) hz,h3⟩
end Go.Sk
namespace Go.Sk
open Go
def sumDown (a v:Int):Int:=if 0<v/\0<a then v+sumDown a (v - a) else 0
termination_by v.toNat
decreasing_by omega
theorem sumDown_pos {a v:Int} (ha:0<a) (h:0<v):sumDown a v=v+sumDown a (v - a):=by rw [sumDown,if_pos ⟨h,ha⟩]
theorem sumDown_not {a v:Int} (h: ¬ 0<v):sumDown a v=0:=by rw [sumDown,if_neg (fun e=>h e.1)]
theorem sumDown_le {a:Int} (ha:0<a): ∀ (n:Nat) (v:Int),v<=n->0<=sumDown a v/\sumDown a v<=n*n:=by
 intro n
 induction n with
 |zero=>intro v h;rw [sumDown_not (by omega)];simp
 |succ n ih=>
  intro v h
  by_cases hv:0<v
  · rw [sumDown_pos ha hv]
    have:=ih (v - a) (by omega)
    have e:((n+1:Nat):Int)*((n+1:Nat):Int)=n*n+(n+n+1):=by push_cast;rw [Int.add_mul,Int.mul_add];omega
    omega
  · rw [sumDown_not hv]
    exact ⟨Int.le_refl _,Int.mul_nonneg (by omega) (by omega)⟩
def brakeP (a s:Int):Int:=sumDown a (s - a)
theorem brakeP_le {a s:Int} (ha:1<=a) (hs:s<=1000):0<=brakeP a s/\brakeP a s<=1000000:=by
 have:=sumDown_le (a:=a) (by omega) 1000 (s - a) (by omega)
 unfold brakeP
 omega
theorem brakeP_one {a s:Int} (ha:1<=a) (h:s<=1):brakeP a s=0:=sumDown_not (by omega)
def nextDown (a r q:Int):Int:=if 1<q/\r - q<brakeP a q then nextDown a r (q - 1) else q
termination_by q.toNat
decreasing_by omega
theorem nextDown_go {a r q:Int} (h:1<q/\r - q<brakeP a q):nextDown a r q=nextDown a r (q - 1):=by rw [nextDown,if_pos h]
theorem nextDown_end {a r q:Int} (h: ¬ (1<q/\r - q<brakeP a q)):nextDown a r q=q:=by rw [nextDown,if_neg h]
theorem nextDown_is {a r:Int}: ∀ (n:Nat) (q:Int),q<=n->1<=q->1<=nextDown a r q/\nextDown a r q<=q/\(nextDown a r q=1\/brakeP a (nextDown a r q)<=r - nextDown a r q):=by
 intro n
 induction n with
 |zero=>intro q h1 h2;omega
 |succ n ih=>
  intro q h1 h2
  by_cases h:1<q/\r - q<brakeP a q
  · rw [nextDown_go h]
    obtain ⟨g1,g2,g3⟩:=ih (q - 1) (by omega) (by omega)
    exact ⟨g1,by omega,g3⟩
  · rw [nextDown_end h]
    refine ⟨h2,Int.le_refl _,?_⟩
    by_cases hq:q=1
    · exact .inl hq
    · exact .inr (by
       have: ¬ (r - q<brakeP a q):=fun e=>h ⟨by omega,e⟩
       omega)
def nextP (a r s v:Int):Int:=nextDown a r (min (min (s+a) v) r)
theorem nextP_is {a r s v:Int} (ha:1<=a) (hr:1<=r) (hs:0<=s) (hv:1<=v):1<=nextP a r s v/\nextP a r s v<=v/\nextP a r s v<=r/\nextP a r s v+brakeP a (nextP a r s v)<=r:=by
 unfold nextP
 obtain ⟨g1,g2,g3⟩:=nextDown_is (a:=a) (r:=r) (min (min (s+a) v) r).toNat (min (min (s+a) v) r) (by omega) (by omega)
 refine ⟨g1,by omega,by omega,?_⟩
 rcases g3 with g3|g3
 · rw [g3,brakeP_one ha (Int.le_refl _)];omega
 · omega
def stepsP (falls:Bool) (a v end_ place speed:Int):List Int:=
 if place<end_/\1<=nextP a (end_ - place) speed v then
  (place+nextP a (end_ - place) speed v)::stepsP falls a (if falls then nextP a (end_ - place) speed v else v) end_ (place+nextP a (end_ - place) speed v) (nextP a (end_ - place) speed v)
 else []
termination_by (end_ - place).toNat
decreasing_by omega
theorem stepsP_end {falls:Bool} {a v e p s:Int} (h: ¬ p<e):stepsP falls a v e p s=[]:=by rw [stepsP,if_neg (fun x=>h x.1)]
theorem stepsP_go {falls:Bool} {a v e p s:Int} (ha:1<=a) (hs:0<=s) (hv:1<=v) (h:p<e):
 stepsP falls a v e p s=(p+nextP a (e - p) s v)::stepsP falls a (if falls then nextP a (e - p) s v else v) e (p+nextP a (e - p) s v) (nextP a (e - p) s v):=by
 rw [stepsP,if_pos ⟨h,(nextP_is ha (by omega) hs hv).1⟩]
theorem stepsP_len {falls:Bool} {a e:Int} (ha:1<=a): ∀ (n:Nat) (v p s:Int),0<=s->1<=v->e - p<=n->((stepsP falls a v e p s).length:Int)<=max 0 (e - p):=by
 intro n
 induction n with
 |zero=>
  intro v p s hs hv h
  rw [stepsP_end (by omega)]
  simp;omega
 |succ n ih=>
  intro v p s hs hv h
  by_cases hp:p<e
  · rw [stepsP_go ha hs hv hp]
    obtain ⟨g1,g2,g3,g4⟩:=nextP_is (a:=a) (r:=e - p) (s:=s) (v:=v) ha (by omega) hs hv
    have:=ih (if falls then nextP a (e - p) s v else v) (p+nextP a (e - p) s v) (nextP a (e - p) s v) (by omega) (by split<;>omega) (by omega)
    rw [List.length_cons]
    omega
  · rw [stepsP_end hp]
    simp;omega
theorem stepsP_at {a e v:Int} (ha:1<=a) (hv:1<=v): ∀ (k:Nat) (p s x:Int),0<=s->(stepsP false a v e p s)[k]?=some x->
 ∃ y,(if k=0 then some p else (stepsP false a v e p s)[k - 1]?)=some y/\p<=y/\1<=x - y/\x - y<=v/\x+brakeP a (x - y)<=e:=by
 intro k
 induction k with
 |zero=>
  intro p s x hs hx
  by_cases hp:p<e
  · rw [stepsP_go ha hs hv hp] at hx
    obtain ⟨g1,g2,g3,g4⟩:=nextP_is (a:=a) (r:=e - p) (s:=s) (v:=v) ha (by omega) hs hv
    have hx:p+nextP a (e - p) s v=x:=by simpa using hx
    refine ⟨p,rfl,Int.le_refl _,by omega,by omega,?_⟩
    have e1:x - p=nextP a (e - p) s v:=by omega
    rw [e1];omega
  · rw [stepsP_end hp] at hx;cases hx
 |succ k ih=>
  intro p s x hs hx
  by_cases hp:p<e
  · rw [stepsP_go ha hs hv hp] at hx ⊢
    obtain ⟨g1,g2,g3,g4⟩:=nextP_is (a:=a) (r:=e - p) (s:=s) (v:=v) ha (by omega) hs hv
    simp only [List.getElem?_cons_succ] at hx
    obtain ⟨y,h1,h2,h3⟩:=ih _ _ x (by omega) hx
    refine ⟨y,?_,by omega,h3⟩
    rw [if_neg (by omega),Nat.add_sub_cancel]
    by_cases hk:k=0
    · subst hk
      rw [if_pos rfl] at h1
      exact h1
    · rw [if_neg hk] at h1
      obtain ⟨j,rfl⟩: ∃ j,k=j+1:=⟨k - 1,by omega⟩
      rw [Nat.add_sub_cancel] at h1
      exact h1
  · rw [stepsP_end hp] at hx;cases hx
theorem stepsP_more {falls:Bool} {a e:Int} (ha:1<=a): ∀ (n:Nat) (v p s x:Int),0<=s->1<=v->e - p<=n->x∈stepsP falls a v e p s->p<x/\x<=e:=by
 intro n
 induction n with
 |zero=>
  intro v p s x hs hv h hx
  rw [stepsP_end (by omega)] at hx;cases hx
 |succ n ih=>
  intro v p s x hs hv h hx
  by_cases hp:p<e
  · rw [stepsP_go ha hs hv hp] at hx
    obtain ⟨g1,g2,g3,g4⟩:=nextP_is (a:=a) (r:=e - p) (s:=s) (v:=v) ha (by omega) hs hv
    rcases List.mem_cons.1 hx with rfl|hx
    · omega
    · have:=ih (if falls then nextP a (e - p) s v else v) _ _ x (by omega) (by split<;>omega) (by omega) hx
      omega
  · rw [stepsP_end hp] at hx;cases hx
structure KinP where
 unit:Int
 accel:Int
 speed:Int
structure KinP.Ok (k:KinP):Prop where
 u1:1<=k.unit
 u2:k.unit<=1000
 a1:1<=k.accel
 a2:k.accel<=1000
 s1:1<=k.speed
 s2:k.speed<=1000
def KinP.prof (k:KinP) (n:Int):List Int:=if 1<=n/\n<=16 then stepsP false k.accel k.speed (n*k.unit) 0 0 else []
def KinP.time (k:KinP) (n:Int):Int:=(k.prof n).length
theorem KinP.prof_on {k:KinP} {n:Int} (h:1<=n/\n<=16):k.prof n=stepsP false k.accel k.speed (n*k.unit) 0 0:=if_pos h
theorem KinP.prof_off {k:KinP} {n:Int} (h: ¬ (1<=n/\n<=16)):k.prof n=[]:=if_neg h
theorem KinP.far {k:KinP} (h:k.Ok) {n:Int} (hn:1<=n/\n<=16):1<=n*k.unit/\n*k.unit<=16000:=by
 have h1:=h.u1
 have h2:=h.u2
 have h3:n*k.unit<=16*k.unit:=Int.mul_le_mul_of_nonneg_right hn.2 (by omega)
 have h4:1*k.unit<=n*k.unit:=Int.mul_le_mul_of_nonneg_right hn.1 (by omega)
 omega
theorem KinP.prof_len {k:KinP} (h:k.Ok) (n:Int):(k.prof n).length<=16000:=by
 by_cases hn:1<=n/\n<=16
 · rw [KinP.prof_on hn]
   have h1:=KinP.far h hn
   have:=stepsP_len (falls:=false) (a:=k.accel) (e:=n*k.unit) h.a1 (n*k.unit).toNat k.speed 0 0 (Int.le_refl _) h.s1 (by omega)
   omega
 · rw [KinP.prof_off hn];simp
def KinP.place (k:KinP) (n:Int) (t:Nat):Int:=(k.prof n).getD (t - 1) 0
def KinP.pace (k:KinP) (n:Int) (t:Nat):Int:=k.place n t - (if t=1 then 0 else k.place n (t - 1))
def KinP.cells (k:KinP) (n:Int) (t:Nat):Int:=(k.place n t+brakeP k.accel (k.pace n t)+k.unit - 1) / k.unit
def KinP.stop (k:KinP) (n:Int) (t:Int):Int×Int:=
 if t<1\/(k.prof n).length=0 then (0,0)
 else if (k.prof n).length<=t then (n,0)
 else (k.cells n t.toNat,(stepsP true k.accel (k.pace n t.toNat) (k.cells n t.toNat*k.unit) (k.place n t.toNat) (k.pace n t.toNat)).length)
theorem KinP.mid {k:KinP} (h:k.Ok) {n:Int} {t:Nat} (h1:1<=t) (h2:t<=(k.prof n).length):
 (1<=n/\n<=16)/\1<=k.place n t/\1<=k.pace n t/\k.pace n t<=k.speed/\k.place n t+brakeP k.accel (k.pace n t)<=n*k.unit:=by
 have hn:1<=n/\n<=16:=by
  by_cases hn:1<=n/\n<=16
  · exact hn
  · rw [KinP.prof_off hn] at h2
    simp at h2
    omega
 refine ⟨hn,?_⟩
 obtain ⟨x,hx⟩: ∃ x,(k.prof n)[t - 1]?=some x:=⟨_,List.getElem?_eq_getElem (by omega)⟩
 have hp:k.place n t=x:=by unfold KinP.place;rw [List.getD_eq_getElem?_getD,hx];rfl
 have hx':=hx
 rw [KinP.prof_on hn] at hx'
 obtain ⟨y,g1,g2,g3,g4,g5⟩:=stepsP_at h.a1 h.s1 (t - 1) 0 0 x (Int.le_refl _) hx'
 have hs:k.pace n t=x - y:=by
  unfold KinP.pace
  rw [hp]
  by_cases ht:t=1
  · subst ht
    rw [if_pos rfl]
    simp only [Nat.sub_self,if_true] at g1
    injection g1 with g1
    omega
  · rw [if_neg ht]
    rw [if_neg (by omega),<-KinP.prof_on hn] at g1
    unfold KinP.place
    rw [List.getD_eq_getElem?_getD,g1]
    rfl
 rw [hs,hp]
 exact ⟨by omega,by omega,by omega,g5⟩
theorem KinP.cells_is {k:KinP} (h:k.Ok) {n:Int} {t:Nat} (h1:1<=t) (h2:t<=(k.prof n).length):
 1<=k.cells n t/\k.cells n t<=n/\k.place n t+brakeP k.accel (k.pace n t)<=k.cells n t*k.unit:=by
 obtain ⟨hn,g1,g2,g3,g4⟩:=KinP.mid h h1 h2
 have hb:=(brakeP_le (a:=k.accel) (s:=k.pace n t) h.a1 (by have:=h.s2;omega)).1
 have hu:=h.u1
 unfold KinP.cells
 have hz:1<=k.place n t+brakeP k.accel (k.pace n t):=by omega
 generalize k.place n t+brakeP k.accel (k.pace n t)=z at*
 have e1:=Int.mul_ediv_add_emod (z+k.unit - 1) k.unit
 have e2:=Int.emod_nonneg (z+k.unit - 1) (show k.unit≠0 by omega)
 have e3:=Int.emod_lt_of_pos (z+k.unit - 1) (show 0<k.unit by omega)
 refine ⟨?_,?_,?_⟩
 · rw [Int.le_ediv_iff_mul_le (by omega)];omega
 · have:(z+k.unit - 1) / k.unit<n+1:=by
    rw [Int.ediv_lt_iff_lt_mul (by omega),Int.add_mul]
    omega
   omega
 · rw [Int.mul_comm] at e1
   omega
theorem KinP.stop_is {k:KinP} (h:k.Ok) {n t:Int} (hn:1<=n):0<=(k.stop n t).1/\(k.stop n t).1<=n/\0<=(k.stop n t).2/\(k.stop n t).2<=max 0 (n*k.unit):=by
 unfold KinP.stop
 split
 · exact ⟨Int.le_refl _,by show (0:Int)<=n;omega,Int.le_refl _,by show (0:Int)<=_;omega⟩
 · split
   · exact ⟨by show (0:Int)<=n;omega,Int.le_refl _,Int.le_refl _,by show (0:Int)<=_;omega⟩
   · rename_i h1 h2
     obtain ⟨g0,g1,g2,g3,g4⟩:=KinP.mid h (n:=n) (t:=t.toNat) (by omega) (by omega)
     obtain ⟨c1,c2,c3⟩:=KinP.cells_is h (n:=n) (t:=t.toNat) (by omega) (by omega)
     have hl:=stepsP_len (falls:=true) (a:=k.accel) (e:=k.cells n t.toNat*k.unit) h.a1 (k.cells n t.toNat*k.unit - k.place n t.toNat).toNat (k.pace n t.toNat) (k.place n t.toNat) (k.pace n t.toNat) (by omega) g2 (by omega)
     have hm:k.cells n t.toNat*k.unit<=n*k.unit:=Int.mul_le_mul_of_nonneg_right c2 (by have:=h.u1;omega)
     exact ⟨by show (0:Int)<=k.cells n t.toNat;omega,c2,by show (0:Int)<=((_:Nat):Int);omega,by show ((_:Nat):Int)<=_;omega⟩
end Go.Sk
namespace Go.Sk
open Go
def dirX (d:Int):Int:=if d=1 then 1 else if d=3 then -1 else 0
def dirY (d:Int):Int:=if d=0 then -1 else if d=2 then 1 else 0
def shiftP (p:Pose) (d n:Int):Pose:=⟨⟨RowKit.wrap64 (p.at_.x+n*dirX d),RowKit.wrap64 (p.at_.y+n*dirY d)⟩,p.down⟩
def squareP (x:Cell):List Cell:=[x,⟨RowKit.wrap64 (x.x+1),x.y⟩,⟨x.x,RowKit.wrap64 (x.y+1)⟩,⟨RowKit.wrap64 (x.x+1),RowKit.wrap64 (x.y+1)⟩]
def wayP (c:ConfP) (p:Pose) (d:Int) (n:Nat):Bool:=(List.range n).all fun k=>fitsB c (shiftP p d ((k:Int)+1))
def legalP (c:ConfP) (m:Move):Bool:=fitsB c m.src &&
 (if m.kind=1 then decide (1<=m.n/\m.n<=16) && decide (0<=m.dir/\m.dir<=3) && decide (m.dst=shiftP m.src m.dir m.n) && wayP c m.src m.dir m.n.toNat
  else if m.kind=2 then (squareP m.src.at_).all (openB c) && decide (m.n=0) && decide (m.dir=0) && decide (m.dst=⟨m.src.at_,!m.src.down⟩)
  else if m.kind=3\/m.kind=4 then decide (m.n=0) && decide (m.dir=0) && decide (m.dst=m.src)
  else false)
def mvZ:Move:=⟨0,0,0,⟨⟨0,0⟩,false⟩,⟨⟨0,0⟩,false⟩,0,0⟩
def poseO:Pose:=⟨⟨0,0⟩,false⟩
structure Going where
 move:Move
 t:Int
 left:Int
 cut:Bool
structure RM where
 pose:Pose
 load:Int
 epoch:Int
 num:Int
 under:Option Going
 stopping:Bool
 delay:Int
def RM.start (p:Pose):RM:=⟨p,0,0,0,none,false,0⟩
def RM.tell (i:Int) (r:RM):Tele:=if r.num=0/\0<r.epoch then ⟨4,i,r.epoch,0,mvZ,r.pose,r.load⟩ else ⟨3,i,r.epoch,r.num,mvZ,poseO,0⟩
def cutP (a:Int):Int:=max 0 (min a 4611686018427387904)
def lessP (a b:Int):Int:=if cutP a=4611686018427387904 then 4611686018427387904 else max 0 (cutP a - cutP b)
theorem cutP_bd (a:Int):0<=cutP a/\cutP a<=4611686018427387904:=by unfold cutP;omega
theorem lessP_bd (a b:Int):0<=lessP a b/\lessP a b<=4611686018427387904:=by
 have:=cutP_bd a
 have:=cutP_bd b
 unfold lessP
 split<;>omega
def RM.goes (c:ConfP) (i:Int) (r:RM) (t:Tele):RM×List Tele×Int:=
 if t.epoch<r.epoch then (r,[],2)
 else if r.epoch<t.epoch\/r.under.isSome then (r,[],0)
 else if 0<r.num/\t.num=r.num then (r,[r.tell i],0)
 else if t.num=r.num+1/\t.move.src=r.pose/\legalP c t.move=true/\t.move.at_<t.move.fin/\lessP t.move.fin t.move.at_≠0 then ({r with under:=some ⟨t.move,0,lessP t.move.fin t.move.at_,false⟩},[],1)
 else (r,[],0)
def Going.cuts (k:KinP) (u:Going):Going:=
 if u.move.kind=1/\u.cut=false then ⟨{u.move with n:=(k.stop u.move.n u.t).1,dst:=shiftP u.move.src u.move.dir (k.stop u.move.n u.t).1},u.t,max 1 (k.stop u.move.n u.t).2,true⟩ else u
def RM.stops (k:KinP) (i:Int) (r:RM) (e:Int):RM×List Tele×Int:=
 if e<r.epoch then (r,[],0)
 else if r.epoch<e then
  match r.under with
  |some u=>({r with epoch:=e,num:=0,stopping:=true,under:=some (u.cuts k)},[],0)
  |none=>({r with epoch:=e,num:=0},[({r with epoch:=e,num:=0}:RM).tell i],3)
 else if r.epoch=0\/r.under.isSome\/r.num≠0 then (r,[],0) else (r,[r.tell i],0)
def RM.hear (c:ConfP) (k:KinP) (i:Int) (r:RM) (t:Tele):RM×List Tele×Int:=
 if t.robot≠i then (r,[],0)
 else if t.kind=1 then r.goes c i t
 else if t.kind=2 then r.stops k i t.epoch
 else (r,[],0)
def RM.tick (r:RM):RM×Move×Int:=
 match r.under with
 |none=>(r,mvZ,0)
 |some u=>
  if 0<r.delay then ({r with delay:=r.delay - 1},mvZ,0)
  else if 0<u.left - 1 then ({r with under:=some {u with t:=u.t+1,left:=u.left - 1}},mvZ,0)
  else if r.stopping then ({r with pose:=u.move.dst,under:=none,delay:=0,stopping:=false},u.move,2)
  else ({r with pose:=u.move.dst,under:=none,delay:=0,num:=r.num+1},u.move,1)
def RM.hold (r:RM) (d:Int):RM:=if r.under.isSome/\0<d then {r with delay:=min 1000000 (r.delay+min d 1000000)} else r
def RM.carry (r:RM) (b:Int):RM:={r with load:=b}
def RM.now (r:RM):Move:=match r.under with|some u=>u.move|none=>mvZ
structure WfP (p:Pose):Prop where
 x: -9223372036854775808<=p.at_.x/\p.at_.x<=9223372036854775807
 y: -9223372036854775808<=p.at_.y/\p.at_.y<=9223372036854775807
structure RMOk (c:ConfP) (r:RM) (n:Int):Prop where
 num:0<=r.num/\r.num<=n
 epoch:0<=r.epoch
 delay:0<=r.delay/\r.delay<=1000000
 pose:WfP r.pose
 going: ∀ u,r.under=some u->0<=u.t/\u.t<=n/\1<=u.left/\u.left<=4611686018427387904/\(u.cut=false->legalP c u.move=true)/\WfP u.move.src/\WfP u.move.dst
 still:r.under=none->r.delay=0/\r.stopping=false
 halt:r.stopping=true->r.num=0
theorem RMOk.more {c:ConfP} {r:RM} {n n':Int} (h:RMOk c r n) (hn:n<=n'):RMOk c r n':=
 ⟨⟨h.num.1,by have:=h.num.2;omega⟩,h.epoch,h.delay,h.pose,(fun u hu=>by have:=h.going u hu;exact ⟨this.1,by omega,this.2.2⟩),h.still,h.halt⟩
theorem wrapS_wf (x:Int): -9223372036854775808<=RowKit.wrap64 x/\RowKit.wrap64 x<=9223372036854775807:=by
 unfold RowKit.wrap64
 omega
theorem shiftP_wfP (p:Pose) (d n:Int):WfP (shiftP p d n):=⟨wrapS_wf _,wrapS_wf _⟩
theorem legal_run {c:ConfP} {m:Move} (h:legalP c m=true) (hk:m.kind=1):(1<=m.n/\m.n<=16)/\(0<=m.dir/\m.dir<=3)/\m.dst=shiftP m.src m.dir m.n/\wayP c m.src m.dir m.n.toNat=true:=by
 unfold legalP at h
 rw [if_pos hk] at h
 simp only [Bool.and_eq_true,decide_eq_true_eq] at h
 exact ⟨h.2.1.1.1,h.2.1.1.2,h.2.1.2,h.2.2⟩
theorem legal_dst {c:ConfP} {m:Move} (h:legalP c m=true) (hs:WfP m.src):WfP m.dst:=by
 unfold legalP at h
 split at h
 · simp only [Bool.and_eq_true,decide_eq_true_eq] at h
   rw [h.2.1.2]
   exact shiftP_wfP _ _ _
 · split at h
   · simp only [Bool.and_eq_true,decide_eq_true_eq] at h
     rw [h.2.2]
     exact ⟨hs.x,hs.y⟩
   · split at h
     · simp only [Bool.and_eq_true,decide_eq_true_eq] at h
       rw [h.2.2]
       exact hs
     · simp at h
theorem RMOk.goes {c:ConfP} {i:Int} {r:RM} {n:Int} {t:Tele} (h:RMOk c r n) (hn:0<=n):RMOk c (r.goes c i t).1 (n+1):=by
 have h':=h.more (show n<=n+1 by omega)
 unfold RM.goes
 split
 · exact h'
 · split
   · exact h'
   · rename_i h2
     split
     · exact h'
     · split
       · rename_i h4
         obtain ⟨_,h5,h6,_,h8⟩:=h4
         have hb:=lessP_bd t.move.fin t.move.at_
         have hu:r.under=none:=by cases hu:r.under with|none=>rfl|some u=>exact absurd (.inr (by rw [hu];rfl)) h2
         have hs:WfP t.move.src:=by rw [h5];exact h.pose
         refine ⟨h'.num,h'.epoch,h'.delay,h'.pose,fun u hu=>?_,(fun hu=>by cases hu),h'.halt⟩
         cases hu
         exact ⟨Int.le_refl _,by show (0:Int)<=n+1;omega,by show 1<=lessP _ _;omega,hb.2,fun _=>h6,hs,legal_dst h6 hs⟩
       · exact h'
theorem Going.cuts_ok {c:ConfP} {k:KinP} {u:Going} {n:Int} (hk:k.Ok) (h:0<=u.t/\u.t<=n/\1<=u.left/\u.left<=4611686018427387904/\(u.cut=false->legalP c u.move=true)/\WfP u.move.src/\WfP u.move.dst):
 0<=(u.cuts k).t/\(u.cuts k).t<=n/\1<=(u.cuts k).left/\(u.cuts k).left<=4611686018427387904/\((u.cuts k).cut=false->legalP c (u.cuts k).move=true)/\WfP (u.cuts k).move.src/\WfP (u.cuts k).move.dst:=by
 unfold Going.cuts
 split
 · rename_i hc
   obtain ⟨h1,h2⟩:=legal_run (h.2.2.2.2.1 hc.2) hc.1
   obtain ⟨_,_,s1,s2⟩:=KinP.stop_is hk (n:=u.move.n) (t:=u.t) h1.1
   have hf:=KinP.far hk h1
   refine ⟨h.1,h.2.1,?_,?_,(fun e=>by cases e),h.2.2.2.2.2.1,shiftP_wfP _ _ _⟩
   · show 1<=max 1 _;omega
   · show max 1 _<=_;omega
 · exact h
theorem RMOk.stops {c:ConfP} {k:KinP} {i e:Int} {r:RM} {n:Int} (hk:k.Ok) (h:RMOk c r n) (hn:0<=n):RMOk c (r.stops k i e).1 (n+1):=by
 have h':=h.more (show n<=n+1 by omega)
 unfold RM.stops
 split
 · exact h'
 · split
   · rename_i h2
     have he:0<=e:=by have:=h.epoch;omega
     split
     · rename_i u hu
       refine ⟨⟨Int.le_refl _,by show (0:Int)<=n+1;omega⟩,he,h'.delay,h'.pose,fun v hv=>?_,(fun hv=>by cases hv),fun _=>rfl⟩
       cases hv
       exact Going.cuts_ok hk (h'.going u hu)
     · rename_i hu
       exact ⟨⟨Int.le_refl _,by show (0:Int)<=n+1;omega⟩,he,h'.delay,h'.pose,(fun v hv=>by rw [hu] at hv;cases hv),(fun _=>h'.still hu),fun _=>rfl⟩
   · split<;>exact h'
theorem RMOk.hear {c:ConfP} {k:KinP} {i:Int} {r:RM} {n:Int} {t:Tele} (hk:k.Ok) (h:RMOk c r n) (hn:0<=n):RMOk c (r.hear c k i t).1 (n+1):=by
 have h':=h.more (show n<=n+1 by omega)
 unfold RM.hear
 split
 · exact h'
 · split
   · exact h.goes hn
   · split
     · exact h.stops hk hn
     · exact h'
theorem RMOk.tick {c:ConfP} {r:RM} {n:Int} (h:RMOk c r n):RMOk c r.tick.1 (n+1):=by
 have h':=h.more (show n<=n+1 by omega)
 unfold RM.tick
 split
 · exact h'
 · rename_i u hu
   have hg:=h.going u hu
   have hnum:=h.num
   have hd:=h.delay
   split
   · exact ⟨h'.num,h'.epoch,⟨by show 0<=r.delay - 1;omega,by show r.delay - 1<=1000000;omega⟩,h'.pose,h'.going,(fun hv=>by rw [hu] at hv;cases hv),h'.halt⟩
   · split
     · refine ⟨h'.num,h'.epoch,h'.delay,h'.pose,fun v hv=>?_,(fun hv=>by cases hv),h'.halt⟩
       cases hv
       exact ⟨by show 0<=u.t+1;omega,by show u.t+1<=n+1;omega,by show 1<=u.left - 1;omega,by show u.left - 1<=_;omega,hg.2.2.2.2⟩
     · split
       · exact ⟨h'.num,h'.epoch,⟨Int.le_refl _,by show (0:Int)<=1000000;omega⟩,hg.2.2.2.2.2.2,(fun v hv=>by cases hv),(fun _=>⟨rfl,rfl⟩),fun e=>by cases e⟩
       · rename_i h4
         exact ⟨⟨by show 0<=r.num+1;omega,by show r.num+1<=n+1;omega⟩,h'.epoch,⟨Int.le_refl _,by show (0:Int)<=1000000;omega⟩,hg.2.2.2.2.2.2,(fun v hv=>by cases hv),(fun _=>⟨rfl,by simpa using h4⟩),fun e=>absurd e h4⟩
theorem RMOk.hold {c:ConfP} {r:RM} {n d:Int} (h:RMOk c r n):RMOk c (r.hold d) n:=by
 unfold RM.hold
 split
 · rename_i hc
   refine ⟨h.num,h.epoch,⟨?_,?_⟩,h.pose,h.going,(fun hv=>by rw [hv] at hc;exact absurd hc.1 (by simp)),h.halt⟩
   · have:=h.delay;show 0<=min _ _;omega
   · show min _ _<=_;omega
 · exact h
theorem RMOk.start {c:ConfP} {p:Pose} (h:WfP p):RMOk c (RM.start p) 0:=
 ⟨⟨Int.le_refl _,Int.le_refl _⟩,Int.le_refl _,⟨Int.le_refl _,by show (0:Int)<=1000000;omega⟩,h,(fun u hu=>by cases hu),(fun _=>⟨rfl,rfl⟩),fun e=>by cases e⟩
theorem RMOk.carry {c:ConfP} {r:RM} {n b:Int} (h:RMOk c r n):RMOk c (r.carry b) n:=⟨h.num,h.epoch,h.delay,h.pose,h.going,h.still,h.halt⟩
theorem RMOk.tick_is {c:ConfP} {r:RM} {n:Int} {v:RM×Move×Int} (h:RMOk c r n) (hv:r.tick=v):v.1.epoch=r.epoch/\((v.2.2=0/\v.1.num=r.num)\/(v.2.2=1/\v.1.num=r.num+1/\v.1.pose=v.2.1.dst)\/(v.2.2=2/\v.1.num=0)):=by
 subst hv
 unfold RM.tick
 split
 · exact ⟨rfl,.inl ⟨rfl,rfl⟩⟩
 · split
   · exact ⟨rfl,.inl ⟨rfl,rfl⟩⟩
   · split
     · exact ⟨rfl,.inl ⟨rfl,rfl⟩⟩
     · split
       · rename_i h4
         exact ⟨rfl,.inr (.inr ⟨rfl,h.halt h4⟩)⟩
       · exact ⟨rfl,.inr (.inl ⟨rfl,rfl,rfl⟩)⟩
end Go.Sk
namespace Go.Sk
open Go
section
variable {P:Program} {ops:Array Oper} {Q:Exit->Act->World->Prop} {o:Oper} {rest:List Oper} {a:Act} {w0 w:World} {F:Nat->Prop} {M L:List Res}
theorem part_at {b off:Nat} {cs ds:List Value} {T:TypeId} (h:Blk w b cs T) (hc:(cs.drop off).take ds.length=ds):At w b off ds:=h.at fun j v hj=>by
 rw [<-hc,List.getElem?_take,List.getElem?_drop] at hj
 split at hj
 · exact hj
 · cases hj
theorem wl_loadPK {t:TypeId} {x:Operand} {b k n:Nat} {cs:List Value} {T:TypeId} (ds:List Value) (hK:Know w0 w F M L) (ho:o.op=.load t x) (hw:Region.wanted o (yielded ops a.tmps)=true) (hx:a.eval x=.pointer (some ⟨b,k,none⟩))
 (ht:aggB P t n=true) (hm:MemB b cs T M\/MemB b cs T L:=by first|(left;repeat (first|exact MemB.head|apply MemB.tail));done|(right;repeat (first|exact MemB.head|apply MemB.tail));done)
 (hc:(cs.drop k).take ds.length=ds:=by rfl) (hn:ds.length=n:=by rfl)
 (h:wpList P ops Q rest (a.put o.dst (.agg ds.toArray)) w):wpList P ops Q (o::rest) a w:=
 wl_loadS ho hw hx ht hn (part_at (hK.blk hm) hc) h
theorem wl_storePK {t:TypeId} {x y:Operand} {b k n i:Nat} {cs:List Value} {T:TypeId} (vs cs':List Value) (hK:Know w0 w F M L) (ho:o.op=.store t x y) (hw:Region.wanted o (yielded ops a.tmps)=true) (hx:a.eval x=.pointer (some ⟨b,k,none⟩)) (hy:a.eval y=.agg vs.toArray)
 (ht:sizeB P t n=true) (hv: ∀ v∈vs,v.oneCell'=true)
 (hi:Ix M (rBlk b cs T) i:=by repeat (first|exact Ix.head|apply Ix.tail)) (hn:vs.length=n:=by rfl) (hk:k+n<=cs.length:=by decide) (hc:cs.take k++vs++cs.drop (k+n)=cs':=by rfl)
 (h: ∀ w',Know w0 w' F (M.set i (rBlk b cs' T)) L->wpList P ops Q rest (a.put o.dst undef) w'):wpList P ops Q (o::rest) a w:=by
 obtain ⟨S,h1,h2⟩:=hK.stepI hi
 obtain ⟨hB,rfl⟩:=rBlk_p.1 h1
 refine wl_storeS ho hw hx hy ht hn hv hB hk fun w' hB' m=>h w' (h2 w' _ ⟨m,only b,rBlk_p.2 ⟨?_,rfl⟩,fun _ h=>.inl h⟩)
 rw [<-hc]
 exact hB'
theorem stays_loadSP {k:Nat} {S:List Nat} {t:TypeId} {x:Operand} {b d n off:Nat} {R:List Res} {cs:List Value} (ds:List Value) {T:TypeId} (ho:ops[k]?=some o) (hop:o.op=.load t x) (hd:o.dst=some d) (hx:a.eval x=.pointer (some ⟨b,off,none⟩))
 (hs:aggB P t n=true) (hm:MemB b cs T R:=by repeat (first|exact MemB.head|apply MemB.tail)) (hc:(cs.drop off).take ds.length=ds:=by rfl) (hn:ds.length=n:=by rfl) (hv:a.tmps.getD d undef=.agg ds.toArray:=by rfl) (rest:stays P ops (fun W=> ∀ r∈R,Has W r) S a):stays P ops (fun W=> ∀ r∈R,Has W r) (k::S) a:=by
 intro k' hk o' ho' hw W hW
 rcases List.mem_cons.1 hk with rfl|hk
 · rw [ho] at ho'
   injection ho' with ho'
   subst ho'
   refine .inl ?_
   have hl:=run_loadS (P:=P) (w:=W) (k:=off) hs hn (part_at (hW _ hm.mem).blk hc)
   simp only [execOp,hop,hx,Sem.run_bind,hl,Result.andThen_ok,Sem.run_pure,hd,Option.map_some,Option.getD_some,hv]
 · exact rest k' hk o' ho' hw W hW
end
theorem ldQ {G' G:Prop} (h:G') (t:G'->G:=by
 intro g
 first
 |exact wl_loadK hK rfl rfl rfl (scalT (by decide)) (h:=g)
 |exact wl_loadSK hK rfl rfl rfl (aggT (by decide)) (h:=g)
 |exact wl_loadA0 rfl rfl rfl (scalT (by decide)) (h:=g)
 |exact wl_loadA rfl rfl rfl (scalT (by decide)) (h:=g)
 |exact wl_loadSA rfl rfl rfl (aggT (by decide)) (h:=g)):G:=t h
theorem ldKQ {G' G:Prop} (h:G') (t:G'->G:=by
 intro g
 first
 |exact wl_loadK hK rfl rfl rfl (scalT (by decide)) (h:=g)
 |exact wl_loadSK hK rfl rfl rfl (aggT (by decide)) (h:=g)):G:=t h
theorem ldMQ {G' G:Prop} (h:G') (t:G'->G:=by
 intro g
 first
 |exact wl_loadSK hK rfl rfl rfl (aggT (by decide)) (h:=g)
 |exact wl_loadA0 rfl rfl rfl (scalT (by decide)) (h:=g)):G:=t h
end Go.Sk
namespace Go.Sk
open Go
@[irreducible] def rObj (b:Nat) (o:Obj):Res where
  p w S:=w.heap[b]?=some o/\S=only b
  loc:=by
   rintro w w' S ⟨h,rfl⟩ he
   exact ⟨(he b rfl).trans h,rfl⟩
  lt:=by
   rintro w S ⟨h,rfl⟩ b' hb
   cases hb
   exact (Array.getElem?_eq_some_iff.1 h).1
theorem rObj_p {w:World} {b:Nat} {o:Obj} {S:Nat->Prop}:(rObj b o).p w S ↔ w.heap[b]?=some o/\S=only b:=by unfold rObj;exact Iff.rfl
theorem Has.obj {w:World} {b:Nat} {o:Obj} (h:Has w (rObj b o)):w.heap[b]?=some o:=by
 unfold rObj at h;obtain ⟨_,h,_⟩:=h;exact h
theorem Mod.putObj (w:World) (b:Nat) (o:Obj):Mod (only b) w (w.putObj b o):=
 ⟨rfl,rfl,rfl,by simp,fun k _ hk=>World.putObj_heap_other (o:=o) (fun e=>hk e)⟩
section
variable {w0 w:World} {F:Nat->Prop} {M L:List Res}
theorem Know.newObj (h:Know w0 w F M L) (o:Obj):Know w0 (w.alloc o) F (rObj w.heap.size o::M) L:=
 h.push1 ⟨Mod.alloc w o,only w.heap.size,rObj_p.2 ⟨World.alloc_heap_new w o,rfl⟩,fun b h=>.inr (by cases h;exact Nat.le_refl _)⟩
theorem Know.obj {b:Nat} {o:Obj} {i:Nat} (h:Know w0 w F M L) (hi:Ix M (rObj b o) i):w.heap[b]?=some o:=(h.own hi).obj
theorem Know.putObj {b:Nat} {o:Obj} {i:Nat} (h:Know w0 w F M L) (o':Obj) (hi:Ix M (rObj b o) i):Know w0 (w.putObj b o') F (M.set i (rObj b o')) L:=by
 obtain ⟨S,h1,h2⟩:=h.stepI hi
 obtain ⟨hb,rfl⟩:=rObj_p.1 h1
 exact h2 _ _ ⟨Mod.putObj w b o',only b,rObj_p.2 ⟨World.putObj_heap_same (Array.getElem?_eq_some_iff.1 hb).1,rfl⟩,fun _ h=>.inl h⟩
theorem Know.setCell {b k:Nat} {v:Value} {cs:List Value} {T:TypeId} {i:Nat} (h:Know w0 w F M L) (hi:Ix M (rBlk b cs T) i):Know w0 (w.setCell ⟨b,k,none⟩ v) F (M.set i (rBlk b (cs.set k v) T)) L:=by
 obtain ⟨S,h1,h2⟩:=h.stepI hi
 obtain ⟨hb,rfl⟩:=rBlk_p.1 h1
 have he:w.setCell ⟨b,k,none⟩ v=w.setRow b (cs.set k v).toArray:=by
  rw [setCell_eq_setRow w b k _ T (0,0) _ hb]
  simp
 rw [he]
 exact h2 _ _ ⟨Mod.setRow w b _ rfl,only b,rBlk_p.2 ⟨setRow_heap w b _ _ T _ hb,rfl⟩,fun _ h=>.inl h⟩
end
def stay (Q:Exit->Act->World->Prop):Exit->Act->World->Prop:=fun e a w=>e≠.outgrown/\Q e a w
theorem stay_normal {Q:Exit->Act->World->Prop} {a:Act} {w:World} (h:Q .normal a w):stay Q .normal a w:=⟨by simp,h⟩
theorem stay_not {Q:Exit->Act->World->Prop} (h:LetsOut (stay Q)):False:=by
 obtain ⟨a,w,h1,_⟩:=h
 exact h1 rfl
abbrev Rnd (l:Nat):Fence:=Fence.wide.inRound l
section
variable {P:Program} {ops:Array Oper} {Q:Exit->Act->World->Prop} {n l0:Nat}
theorem calls_inRound {f:FuncId} {args:Array Value} {w:World} {R:Ending->World->Prop} (h:Calls P f args w R):CallsIn (Rnd l0) n P f args w R:=
 (callsIn_wide (n:=n)).2 h
theorem rows_inRound {r:String} {args:Array Value} {w:World} {R:Value->World->Prop} (h:Rows P r args w R):RowsIn (Rnd l0) n P r args w R:=
 fun c cs _=>let ⟨v,w',k,s⟩:=h c cs;⟨v,w',k,stepsIn_wide.2 s⟩
theorem rows_wide {r:String} {args:Array Value} {w:World} {R:Value->World->Prop} (h:Rows P r args w R):RowsIn Fence.wide n P r args w R:=
 fun c cs _=>let ⟨v,w',k,s⟩:=h c cs;⟨v,w',k,stepsIn_wide.2 s⟩
theorem upon_in {F:Fence} (hF:F=Fence.wide\/F=Rnd l0) {o:Oper} {a:Act} {next next':Act->World->Prop} {Q':Exit->Act->World->Prop} (hn: ∀ a w,next a w->next' a w) (hp: ∀ c w,stay Q (.panic c) a w->Q' (.panic c) a w) {r:Result Next}
 (h:o.upon P a next (stay Q) r):o.uponIn F n P a next' Q' r:=by
 have hcall: ∀ {f:FuncId} {args:Array Value} {w:World} {R:Ending->World->Prop},Calls P f args w R->CallsIn F (n - 1) P f args w R:=by
  intro f args w R h
  rcases hF with rfl|rfl
  · exact (callsIn_wide (n:=n - 1)).2 h
  · exact calls_inRound h
 have hrow: ∀ {r:String} {args:Array Value} {w:World} {R:Value->World->Prop},Rows P r args w R->RowsIn F (n - 1) P r args w R:=by
  intro r args w R h
  rcases hF with rfl|rfl
  · exact rows_wide h
  · exact rows_inRound h
 have hd:F.depth.isSome=true->1<=n:=by rcases hF with rfl|rfl<;>(intro h;cases h)
 cases r with
 |ok x w'=>
  cases x with
  |value v=>exact hn _ _ h
  |skip=>exact hn _ _ h
  |defer d=>exact hn _ _ h
  |enter f args=>
   refine ⟨hd,(hcall h).mono ?_⟩
   intro e w'' he
   cases e with
   |returned v=>exact hn _ _ he
   |panicked c=>exact hp _ _ he
   |outgrown=>exact (stay_not he).elim
  |row r args=>exact ⟨hd,(hrow h).mono fun v w'' hv=>hn _ _ hv⟩
  |_=>exact h.elim
 |halt x w'=>
  cases x with
  |panic v=>exact hp _ _ h
  |_=>exact h.elim
def noDefer (l:List Oper):Bool:=l.all fun o=>match o.op with|.defer _=>false|_=>true
theorem noDefer_at {l:List Oper} (h:noDefer l=true) {o:Oper} (ho:o∈l): ∀ c,o.op≠.defer c:=by
 have:=List.all_eq_true.1 h o ho
 intro c hc
 rw [hc] at this
 cases this
theorem wpListIn_rnd: ∀ {l:List Oper} {a:Act} {w:World},noDefer l=true->wpList P ops (stay Q) l a w->wpListIn (Rnd l0) n P ops Q l a w
 |[],_,_,_,h=>h.2
 |o::l,a,w,hd,h=>by
  have hd':noDefer l=true:=by
   unfold noDefer at hd ⊢
   rw [List.all_cons,Bool.and_eq_true] at hd
   exact hd.2
  unfold wpList at h
  unfold wpListIn
  split at h
  · rename_i hw
    rw [if_pos hw]
    rcases h with h|⟨_,h⟩
    · refine ⟨fun _ _=>trivial,?_⟩
      rw [Fence.inRound_round,Oper.semAt_some _ _ _ (noDefer_at hd List.mem_cons_self)]
      exact upon_in (Q:=Q) (.inr rfl) (fun a w h=>wpListIn_rnd hd' h) (fun _ _ h=>h.2) h
    · exact (stay_not h).elim
  · rename_i hw
    rw [if_neg hw]
    exact ⟨fun _ _=>trivial,wpListIn_rnd hd' h⟩
theorem wpOpsIn_rnd (hd:noDefer ops.toList=true): ∀ {l:List Nat} {a:Act} {w:World},wpOps P ops (stay Q) l a w->wpOpsIn (Rnd l0) n P ops Q l a w
 |[],_,_,h=>h.2
 |i::l,a,w,h=>by
  unfold wpOps at h
  unfold wpOpsIn
  cases ho:ops[i]? with
  |none=>
   rw [ho] at h
   exact wpOpsIn_rnd hd h
  |some o=>
   rw [ho] at h
   simp only at h ⊢
   split at h
   · rename_i hw
     rw [if_pos hw]
     rcases h with h|⟨_,h⟩
     · refine ⟨fun _ _=>trivial,?_⟩
       rw [Fence.inRound_round,Oper.semAt_some _ _ _ (noDefer_at hd (Array.mem_toList_iff.2 (Array.mem_of_getElem? ho)))]
       exact upon_in (Q:=Q) (.inr rfl) (fun a w h=>wpOpsIn_rnd hd h) (fun _ _ h=>h.2) h
     · exact (stay_not h).elim
   · rename_i hw
     rw [if_neg hw]
     exact ⟨fun _ _=>trivial,wpOpsIn_rnd hd h⟩
theorem wpIn_region_rnd {id:Nat} {a:Act} {w:World} {l:List Oper} (hd:noDefer l=true) (h:wpList P l.toArray (stay Q) l a w):(Code.region id l.toArray false).wpIn (Rnd l0) n P Q a w:=
 wpIn_region_lit (wpListIn_rnd hd h)
theorem wpIn_any_rnd {id:Nat} {a:Act} {w:World} {l:List Oper} (hm:P.follows .mixedOrders=true) (hd:noDefer l=true) (h:regAny P l (stay Q) a w):(Code.region id l.toArray true).wpIn (Rnd l0) n P Q a w:=
 wpIn_region_draw fun t=>by
  simp only [Region.schedule,hm,Bool.true_or,if_true]
  exact wpOpsIn_rnd (by simpa using hd) (wpAny_sound _ t _ a _ h)
theorem wlIn_cons {o:Oper} {rest:List Oper} {a:Act} {w:World}
 (h:wpList P ops (fun e a w=>e≠.outgrown/\((e=.normal/\wpListIn Fence.wide n P ops Q rest a w)\/(e≠.normal/\Q e a w))) [o] a w):wpListIn Fence.wide n P ops Q (o::rest) a w:=by
 unfold wpList at h
 unfold wpListIn
 split at h
 · rename_i hw
   rw [if_pos hw]
   rcases h with h|⟨_,⟨a1,w1,h,_⟩⟩
   · refine ⟨fun _ _=>trivial,?_⟩
     rw [Fence.wide_round,Oper.semAt_none]
     refine upon_in (l0:=0) (Q:=fun e a w=>(e=.normal/\wpListIn Fence.wide n P ops Q rest a w)\/(e≠.normal/\Q e a w)) (.inl rfl) (fun a w h=>?_) (fun c w h=>?_) h
     · rcases h.2 with h|h
       · exact h.2
       · exact absurd rfl h.1
     · rcases h.2 with h|h
       · cases h.1
       · exact h.2
   · exact absurd rfl h
 · rename_i hw
   rw [if_neg hw]
   refine ⟨fun _ _=>trivial,?_⟩
   rcases h.2 with h|h
   · exact h.2
   · exact absurd rfl h.1
theorem wlIn_at {F:Fence} {o:Oper} {rest:List Oper} {a:Act} {w:World} (h:wpListIn F n P ops Q (o::rest) a w):wpListIn F n P ops Q (o::rest) a w:=h
theorem wlIn_done {rest:List Oper} {a:Act} {w:World} (h:wpListIn Fence.wide n P ops Q rest a w):(Exit.normal≠.outgrown/\((Exit.normal=.normal/\wpListIn Fence.wide n P ops Q rest a w)\/(Exit.normal≠.normal/\Q .normal a w))):=⟨by simp,.inl ⟨rfl,h⟩⟩
theorem wp_region_in {id:Nat} {a:Act} {w:World} {l:List Oper} (h:wpListIn Fence.wide 0 P l.toArray Q l a w):(Code.region id l.toArray false).wp P Q a w:=
 (wpIn_wide (n:=0)).1 (wpIn_region_lit h)
@[irreducible] def HidR (id:Nat) (ops:Array Oper) (d:Bool):Code:=Code.region id ops d
theorem hidR (id:Nat) (ops:Array Oper) (d:Bool):Code.region id ops d=HidR id ops d:=by unfold HidR;rfl
theorem hidR_in {id:Nat} {a:Act} {w:World} {l:List Oper} (h:wpListIn Fence.wide 0 P l.toArray Q l a w):(HidR id l.toArray false).wp P Q a w:=by
 rw [<-hidR];exact wp_region_in h
def YieldsK (P:Program) (l:Nat) (args:Array Value) (w:World) (R:Ending->World->Prop):Prop:=
 ∃ fn tmps assign body,(Instr.yield l args).run P w=.ok (.round l fn tmps assign body) w/\RoundIn Fence.wide 0 P l fn tmps assign body w R
theorem RoundIn.depth {f:FuncId} {tmps:Array Value} {assign body:Code} {w:World} {R:Ending->World->Prop} {m:Nat} (h:RoundIn Fence.wide 0 P l0 f tmps assign body w R):RoundIn Fence.wide m P l0 f tmps assign body w R:=
 ⟨h.1,fun c cs _=>h.2 c cs (room_wide _)⟩
theorem wlIn_yield {o:Oper} {rest:List Oper} {a:Act} {w:World} {l:Nat} {g:Operand} {xs:Array Operand} {ts:Array TypeId} {args:Array Value} {R:Ending->World->Prop}
 (ho:o.op=.call {callee:=.value g,args:=xs,argTypes:=ts}) (hw:Region.wanted o (yielded ops a.tmps)=true) (hg:a.eval g=.func (.yield l) #[] #[]) (hx:xs.map a.eval=args)
 (hY:YieldsK P l args w R) (h: ∀ v w',R (.returned v) w'->wpListIn Fence.wide n P ops Q rest (a.put o.dst v) w') (h1: ∀ c w',¬ R (.panicked c) w') (h2: ∀ w',¬ R .outgrown w'):wpListIn Fence.wide n P ops Q (o::rest) a w:=by
 obtain ⟨fn,tmps,assign,body,hy,hR⟩:=hY
 unfold wpListIn
 rw [if_pos hw]
 refine ⟨fun _ _=>trivial,?_⟩
 have hrun:(o.semAt Fence.wide.round a.eval).run P w=.ok (.round l fn tmps assign body) w:=by
  rw [Fence.wide_round,Oper.semAt_none,<-hy]
  simp only [execOp,ho,resolve,hg,Deferred.ofValue,Sem.run_bind,Sem.run_pure,Result.andThen_ok,invoke,hx]
  simp
 rw [hrun]
 refine ⟨(fun h=>by cases h),(RoundIn.depth hR).mono ?_⟩
 intro e w'' he
 cases e with
 |returned v=>exact h v w'' he
 |panicked c=>exact (h1 c w'' he).elim
 |outgrown=>exact (h2 w'' he).elim
theorem wlIn_yield1 {o:Oper} {rest:List Oper} {a:Act} {w:World} {l:Nat} {g x:Operand} {ts:Array TypeId} {u:Value} {R:Ending->World->Prop}
 (ho:o.op=.call {callee:=.value g,args:= #[x],argTypes:=ts}) (hw:Region.wanted o (yielded ops a.tmps)=true) (hg:a.eval g=.func (.yield l) #[] #[]) (hx:a.eval x=u)
 (hY:YieldsK P l #[u] w R) (h: ∀ v w',R (.returned v) w'->wpListIn Fence.wide n P ops Q rest (a.put o.dst v) w') (h1: ∀ c w',¬ R (.panicked c) w') (h2: ∀ w',¬ R .outgrown w'):wpListIn Fence.wide n P ops Q (o::rest) a w:=
 wlIn_yield ho hw hg (by simp [hx]) hY h h1 h2
def rndEnd (w0:World) (F:Nat->Prop) (L:List Res) (l:Nat) (r:Loop) (R:Ending->World->Prop):Exit->Act->World->Prop
 |.normal,_,w=> ∃ M,Know w0 w F (rObj l (.loop {r with state:=.busy})::M) L/\ ∀ w',Know w0 w' F (rObj l (.loop {r with state:=.ready,pending:=none})::M) L->R (.returned (.bool true)) w'
 |.ret,_,w=> ∃ M,Know w0 w F (rObj l (.loop {r with state:=.busy})::M) L/\ ∀ w',Know w0 w' F (rObj l (.loop {r with state:=.done,pending:=some .ret})::M) L->R (.returned (.bool false)) w'
 |.exit id,_,w=> ∃ M,Know w0 w F (rObj l (.loop {r with state:=.busy})::M) L/\ ∀ w',Know w0 w' F (rObj l (.loop {r with state:=.done,pending:=some (.exit id)})::M) L->R (.returned (.bool false)) w'
 |.goto t,_,w=> ∃ M,Know w0 w F (rObj l (.loop {r with state:=.busy})::M) L/\ ∀ w',Know w0 w' F (rObj l (.loop {r with state:=.done,pending:=some (.goto t)})::M) L->R (.returned (.bool false)) w'
 |.panic _,_,_=>False
 |.outgrown,_,_=>False
variable {w0 w:World} {F:Nat->Prop} {M L:List Res}
theorem yields_of {r:Loop} {l:Nat} {args:Array Value} {R:Ending->World->Prop} (hK:Know w0 w F (rObj l (.loop r)::M) L) (hs:args.size=r.params.size) (hr:r.state=.ready)
 (h:r.assign.wpIn (Rnd l) 0 P (Exit.then (fun a1 w1=> ∃ M1,Know w0 w1 F (rObj l (.loop r)::M1) L/\ ∀ w2,Know w0 w2 F (rObj l (.loop {r with state:=.busy})::M1) L->r.body.wpIn (Rnd l) 0 P (rndEnd w0 F L l r R) a1 w2) (fun _ _ _=>False))
   {tmps:=(r.params.zip args).foldl (fun t (p,v)=>t.setIfInBounds p v) r.tmps,defers:=[]} w):YieldsK P l args w R:=by
 refine ⟨_,_,_,_,run_yield (hK.obj .head) hs,roundIn_of_wpIn trivial (wpIn_mono h ?_)⟩
 intro e a1 w1 hp
 cases e with
 |normal=>
  obtain ⟨M1,h1,h2⟩:=hp
  refine ⟨_,run_beginRound (h1.obj .head) hr,wpIn_mono (h2 _ (h1.putObj _ .head)) ?_⟩
  intro e a3 w3 hq
  cases e with
  |normal=>
   obtain ⟨M3,k1,k2⟩:=hq
   exact ⟨_,_,run_endRound none (k1.obj .head),k2 _ (k1.putObj _ .head)⟩
  |ret=>
   obtain ⟨M3,k1,k2⟩:=hq
   exact ⟨_,_,run_endRound (some .ret) (k1.obj .head),k2 _ (k1.putObj _ .head)⟩
  |exit id=>
   obtain ⟨M3,k1,k2⟩:=hq
   exact ⟨_,_,run_endRound (some (.exit id)) (k1.obj .head),k2 _ (k1.putObj _ .head)⟩
  |goto t=>
   obtain ⟨M3,k1,k2⟩:=hq
   exact ⟨_,_,run_endRound (some (.goto t)) (k1.obj .head),k2 _ (k1.putObj _ .head)⟩
  |panic c=>exact hq.elim
  |outgrown=>exact hq.elim
 |_=>exact hp.elim
theorem yields_of1 {r:Loop} {l:Nat} {p1:Tmp} {v1:Value} {R:Ending->World->Prop} (hK:Know w0 w F (rObj l (.loop r)::M) L) (hs:r.params= #[p1]) (hr:r.state=.ready)
 (h:r.assign.wpIn (Rnd l) 0 P (Exit.then (fun a1 w1=> ∃ M1,Know w0 w1 F (rObj l (.loop r)::M1) L/\ ∀ w2,Know w0 w2 F (rObj l (.loop {r with state:=.busy})::M1) L->r.body.wpIn (Rnd l) 0 P (rndEnd w0 F L l r R) a1 w2) (fun _ _ _=>False))
   {tmps:=r.tmps.setIfInBounds p1 v1,defers:=[]} w):YieldsK P l #[v1] w R:=by
 have e:(r.params.zip #[v1]).foldl (fun t (p,v)=>t.setIfInBounds p v) r.tmps=r.tmps.setIfInBounds p1 v1:=by rw [hs];simp
 exact yields_of hK (by rw [hs];rfl) hr (by rw [e];exact h)
theorem wpIn_region_stableR {id:Nat} {a:Act} {l:List Oper} (hK:Know w0 w F M L) (S:List Nat) (R:List Res) (hm:P.follows .mixedOrders=true) (hB:drawOkS P S l=true)
 (hC: ∀ r∈R,r∈M++L) (hd:(l.all fun o=>match o.dst with|some d=>decide (d<a.tmps.size)|none=>true)=true) (hdf:noDefer l=true)
 (h: ∀ w',Know w0 w' F M L->wpC P l.toArray (fun W=> ∀ r∈R,Has W r) (fun a w=>shapesOk P l.toArray l a=true/\stays P l.toArray (fun W=> ∀ r∈R,Has W r) S a/\stay Q .normal a w) l a w'):(Code.region id l.toArray true).wpIn (Rnd l0) n P Q a w:=
 wpIn_any_rnd hm hdf (any_region_stable S _ hB (fun r hr=>(hK.same (Mod.drew w)).get (hC r hr)) (fun w ob h r hr=>(h r hr).mod (Mod.alloc _ _)) hd (h _ (hK.same (Mod.drew w))))
theorem Know.front (i:Nat) {r:Res} (h:Know w0 w F M L) (hi:M[i]?=some r:=by rfl):Know w0 w F (r::M.eraseIdx i) L:=by
 refine h.pull ?_
 clear h
 induction M generalizing i with
 |nil=>cases hi
 |cons x M ih=>
  cases i with
  |zero=>
   simp only [List.getElem?_cons_zero,Option.some.injEq] at hi
   subst hi
   exact .head
  |succ i=>exact .tail (ih i hi)
theorem Sep.perm' {w:World} {M M':List Res} (hp:M.Perm M'): ∀ {U:Nat->Prop},Sep w M U->Sep w M' U:=by
 induction hp with
 |nil=>exact fun h=>h
 |cons x _ ih=>
  rintro U ⟨S,V,h1,h2,h3,h4⟩
  exact ⟨S,V,h1,ih h2,h3,h4⟩
 |swap x y l=>
  rintro U h
  exact Sep.pull (.tail .head) h
 |trans _ _ ih1 ih2=>exact fun h=>ih2 (ih1 h)
theorem Know.perm {M':List Res} (h:Know w0 w F M L) (hp:M.Perm M'):Know w0 w F M' L:=by
 obtain ⟨hm,U,h1,h2,h3⟩:=h
 exact ⟨hm,U,h1.perm' hp,h2,h3⟩
theorem take_filterMap {α:Type} (l:List α): ∀ n,(List.range n).filterMap (fun i=>l[i]?)=l.take n
 |0=>by simp
 |n+1=>by
  rw [List.range_succ,List.filterMap_append,take_filterMap l n,List.take_add_one]
  congr 1
theorem Know.order (idx:List Nat) {M':List Res} (h:Know w0 w F M L) (hp:idx.Perm (List.range idx.length):=by decide) (hM:idx.filterMap (fun i=>M[i]?)++M.drop idx.length=M':=by rfl):Know w0 w F M' L:=by
 refine h.perm ?_
 rw [<-hM]
 have h1:=(hp.filterMap (fun i=>M[i]?)).append_right (M.drop idx.length)
 rw [take_filterMap,List.take_append_drop] at h1
 exact h1.symm
abbrev mark (D:Nat):Deferred:={target:=.collected D,args:= #[]}
abbrev recOf (fn:FuncId) (tmps:Array Value) (ps:Array Tmp) (assign body:Code) (D:Nat) (st:LoopState) (pe:Option Code):Loop:={state:=st,pending:=pe,fn,tmps,params:=ps,assign,body,defers:=D}
def rngEnd (P:Program) (w0:World) (F:Nat->Prop) (L:List Res) (l:Nat) (r:Loop) (Q:Exit->Act->World->Prop) (a:Act):Ending->World->Prop
 |.returned _,w=>(∃ M,Know w0 w F (rObj l (.loop {r with state:=.ready,pending:=none})::M) L/\ ∀ w',Know w0 w' F M L->Q .normal a w')\/
   (∃ c M,Know w0 w F (rObj l (.loop {r with state:=.done,pending:=some c})::M) L/\ ∀ w',Know w0 w' F M L->c.wp P Q a w')
 |_,_=>False
theorem Know.tail {x:Res} (h:Know w0 w F (x::M) L):Know w0 w F M L:=h.sub (.cons _ (List.Sublist.refl _))
theorem wp_rangeFuncK {g:Operand} {ps:Array Tmp} {assign body:Code} {a:Act} (hK:Know w0 w F M L) {gf:Nat} {lb:Array Value} (hg:a.eval g=.func (.func gf) #[] lb) (eg: ∀ args w,(callFunc gf args).run P w=.ok (.enter gf args) w)
 (h: ∀ fn D l w1,Know w0 w1 F (rObj l (.loop (recOf fn a.tmps ps assign body D .ready none))::rObj D (.deferred (some []))::M) L->
   Calls P gf (#[.func (.yield l) #[] #[]]++lb) w1 (rngEnd P w0 F L l (recOf fn a.tmps ps assign body D .ready none) Q {a with defers:=mark D::a.defers})):
 (Code.rangeFunc g ps assign body).wp P Q a w:=by
 refine (wpIn_wide (n:=0)).1 (wpIn_rangeFunc fun fn _=>?_)
 have k1:=(hK.newObj (.deferred (some []))).newObj (.loop (recOf fn a.tmps ps assign body w.heap.size .ready none))
 rw [World.size_alloc] at k1
 have hrun:=run_enterLoop_outer (P:=P) (w:=w) fn a.tmps ps assign body
 generalize ((w.alloc (.deferred (some []))).alloc (.loop (recOf fn a.tmps ps assign body w.heap.size .ready none)))=W1 at k1 hrun
 refine ⟨w.heap.size+1,[mark w.heap.size],W1,{target:=.fn (.func gf) lb,args:= #[.func (.yield (w.heap.size+1)) #[] #[]]},W1,gf,
  #[.func (.yield (w.heap.size+1)) #[] #[]]++lb,W1,hrun,?_,fun _ _=>trivial,?_,(fun h=>by cases h),?_⟩
 · simp only [resolve,hg]
   simp [go_sem]
 · simp only [invoke]
   exact eg _ _
 · refine (callsIn_wide (n:=0 - 1)).2 ((h fn w.heap.size (w.heap.size+1) _ k1).mono ?_)
   intro e w3 he
   cases e with
   |returned v=>
    rcases he with ⟨M3,h1,h2⟩|⟨c,M3,h1,h2⟩
    · exact ⟨none,_,run_endLoop (h1.obj .head) (by simp),h2 _ (h1.putObj _ .head).tail⟩
    · exact ⟨some c,_,run_endLoop (h1.obj .head) (by simp),(wpIn_wide (n:=0)).2 (h2 _ (h1.putObj _ .head).tail)⟩
   |panicked c=>exact he.elim
   |outgrown=>exact he.elim
theorem calls_marks {f:FuncId} {fn:Func} {c:Code} {args:Array Value} {R:Ending->World->Prop} (hf:P.funcs[f]?=some fn) (hb:fn.body=some c)
 (h:c.wp P (bodyPostM Fence.wide 0 P fn R) {tmps:=args++Array.replicate (fn.ntmps - args.size) undef,defers:=[]} w):Calls P f args w R:=
 (callsIn_wide (n:=0)).1 (callsIn_of_wp_marks hf hb trivial ((wpIn_wide (n:=0)).2 h))
theorem leaves_mark {fn:Func} {tmps:Array Value} {R:Ending->World->Prop} {ds:List Deferred} {D i:Nat} (hK:Know w0 w F M L) (hi:Ix M (rObj D (.deferred (some []))) i)
 (h: ∀ w',Know w0 w' F (M.set i (rObj D (.deferred none))) L->LeavesInM Fence.wide 0 P fn tmps R ds .returning w'):LeavesInM Fence.wide 0 P fn tmps R (mark D::ds) .returning w:=
 ⟨by simp,.inl ⟨D,_,rfl,run_takeDeferred (hK.obj hi),h _ (hK.putObj _ hi)⟩⟩
theorem leaves_nil {fn:Func} {tmps:Array Value} {R:Ending->World->Prop} {v:Value} (hr:(results fn tmps).run P w=.ok v w) (h:R (.returned v) w):LeavesInM Fence.wide 0 P fn tmps R [] .returning w:=
 ⟨v,hr,h⟩
end
end Go.Sk
namespace Go.Sk
open Go
section
variable {P:Program} {ops:Array Oper} {rest:List Oper} {o:Oper} {a:Act} {w:World} {Q:Exit->Act->World->Prop} {ts:Array TypeId} {k:IntKind} {p q r:Int}
theorem wl_pure {v:Value} (hw:Region.wanted o (yielded ops a.tmps)=true) (hr: ∀ W,(execOp a.eval o).run P W=.ok (.value v) W) (h:wpList P ops Q rest (a.put o.dst v) w):wpList P ops Q (o::rest) a w:=
 wl_val hw (hr w) h
theorem run_bi {b:Builtin} {xs:Array Operand} {v:Value} (ho:o.op=.call {callee:=.builtin b,args:=xs,argTypes:=ts}) (hr: ∀ cs,(builtin b ts o.type cs (xs.map a.eval)).run P w=.ok (.value v) w):(execOp a.eval o).run P w=.ok (.value v) w:=by
 simp only [execOp,ho,resolve,Sem.run_bind,Sem.run_pure,Result.andThen_ok,invoke,hr]
theorem bi_min {t:TypeId} {cs:Array Bool} {xs:Array Value}:builtin .min ts t cs xs=(do pure (.value (<-Builtin.min_ ts t xs))):=rfl
theorem bi_max {t:TypeId} {cs:Array Bool} {xs:Array Value}:builtin .max ts t cs xs=(do pure (.value (<-Builtin.max_ ts t xs))):=rfl
theorem run_min3 (ts:Array TypeId) (t:TypeId) (k k' k'':IntKind) (x y z:Int):(Builtin.min_ ts t #[.int k x,.int k' y,.int k'' z]).run P w=.ok (.int k (if z<(if y<x then y else x) then z else (if y<x then y else x))) w:=by
 simp [Builtin.min_,Builtin.min2]
theorem wl_min2 {x y:Operand} (ho:o.op=.call {callee:=.builtin .min,args:= #[x,y],argTypes:=ts}) (hw:Region.wanted o (yielded ops a.tmps)=true) (hx:a.eval x=.int k p) (hy:a.eval y=.int k q)
 (h:wpList P ops Q rest (a.put o.dst (.int k (min p q))) w):wpList P ops Q (o::rest) a w:=
 wl_val hw (w':=w) (v:=.int k (min p q)) (run_bi ho fun cs=>by
  simp only [List.map_toArray,List.map_cons,List.map_nil,hx,hy,bi_min,Sem.run_bind,run_min_int2,Result.andThen_ok,Sem.run_pure]
  rw [show min p q=if q<p then q else p by split<;>omega]) h
theorem wl_max2 {x y:Operand} (ho:o.op=.call {callee:=.builtin .max,args:= #[x,y],argTypes:=ts}) (hw:Region.wanted o (yielded ops a.tmps)=true) (hx:a.eval x=.int k p) (hy:a.eval y=.int k q)
 (h:wpList P ops Q rest (a.put o.dst (.int k (max p q))) w):wpList P ops Q (o::rest) a w:=
 wl_val hw (w':=w) (v:=.int k (max p q)) (run_bi ho fun cs=>by
  simp only [List.map_toArray,List.map_cons,List.map_nil,hx,hy,bi_max,Sem.run_bind,run_max_int2,Result.andThen_ok,Sem.run_pure]
  first|rw [show max p q=if p<q then q else p by split<;>omega]|rw [show max p q=if q>p then q else p by split<;>omega]) h
theorem wl_min3 {x y z:Operand} (ho:o.op=.call {callee:=.builtin .min,args:= #[x,y,z],argTypes:=ts}) (hw:Region.wanted o (yielded ops a.tmps)=true) (hx:a.eval x=.int k p) (hy:a.eval y=.int k q) (hz:a.eval z=.int k r)
 (h:wpList P ops Q rest (a.put o.dst (.int k (min (min p q) r))) w):wpList P ops Q (o::rest) a w:=
 wl_val hw (w':=w) (v:=.int k (min (min p q) r)) (run_bi ho fun cs=>by
  simp only [List.map_toArray,List.map_cons,List.map_nil,hx,hy,hz,bi_min,Sem.run_bind,run_min3,Result.andThen_ok,Sem.run_pure]
  congr 3
  repeat' split
  all_goals omega) h
theorem stays_eqlP {C:World->Prop} {k:Nat} {S:List Nat} {a:Act} {t yt:TypeId} {x y:Operand} {dst:Tmp} {q:Bool} (c d:Pose) (ht:eqTy P t poseKs=true) (hq:decide (c=d)=q) (ho:ops[k]?=some o) (hop:o.op=.binOp .eql t x y yt) (hd:o.dst=some dst)
 (hx:a.eval x=.agg c.cells.toArray) (hy:a.eval y=.agg d.cells.toArray) (hv:a.tmps.getD dst undef=.bool q) (rest:stays P ops C S a):stays P ops C (k::S) a:=by
 intro k' hk o' ho' hw W hW
 rcases List.mem_cons.1 hk with rfl|hk
 · rw [ho] at ho'
   injection ho' with ho'
   subst ho'
   refine .inl ?_
   rw [hd,Option.map_some,Option.getD_some,hv,<-hq]
   simp only [execOp,hop,hx,hy]
   rw [Sem.run_bind,run_eql_struct W ht c.ks d.ks,Pose.eq]
   rfl
 · exact rest k' hk o' ho' hw W hW
end
end Go.Sk
