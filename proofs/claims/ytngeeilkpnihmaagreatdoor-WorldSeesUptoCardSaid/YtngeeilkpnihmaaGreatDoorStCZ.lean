/- Texts of mine that belong together: SkOwn, SkAny, SkOpen, St9. -/
import Derived.Test.YtngeeilkpnihmaaGreatDoorSkBZ
import Derived.Test.YtngeeilkpnihmaaGreatDoorSt5Z
import Derived.Test.YtngeeilkpnihmaaGreatDoorStBZ
import Derived.Test.YtngeeilkpnihmaaGreatDoorStAZ
set_option linter.all false
namespace Go.Sk
open Go
theorem Ix.mem {M:List Res} {r:Res} {i:Nat} (h:Ix M r i):r∈M:=by
 induction h with
 |head=>exact List.mem_cons_self
 |tail _ ih=>exact List.mem_cons_of_mem _ ih
section
variable {w0 w:World} {F:Nat->Prop} {M L:List Res} {r:Res}
theorem Know.own {i:Nat} (h:Know w0 w F M L) (hi:Ix M r i:=by repeat (first|exact Ix.head|apply Ix.tail)):Has w r:=h.get (List.mem_append_left _ hi.mem)
theorem Know.lent {i:Nat} (h:Know w0 w F M L) (hi:Ix L r i:=by repeat (first|exact Ix.head|apply Ix.tail)):Has w r:=h.has hi.mem
theorem Know.callsI {P:Program} {f:FuncId} {args:Array Value} {r':Res} {v:Value} {i:Nat} (h:Know w0 w F M L)
 (hc: ∀ S,r.p w S->Calls P f args w fun e w'=>e=.returned v/\Turn r' w w' S) (hi:Ix M r i:=by repeat (first|exact Ix.head|apply Ix.tail)):Calls P f args w fun e w'=>e=.returned v/\Know w0 w' F (M.set i r') L:=by
 obtain ⟨S,h1,h2⟩:=h.stepI hi
 exact (hc S h1).mono fun e w' ⟨he,ht⟩=>⟨he,h2 w' r' ht⟩
theorem Know.callsJ {P:Program} {f:FuncId} {args:Array Value} {r':Res} {v:Value} {i:Nat} (h:Know w0 w F M L) (hi:Ix M r i)
 (hc: ∀ S,r.p w S->Calls P f args w fun e w'=>e=.returned v/\Turn r' w w' S):Calls P f args w fun e w'=>e=.returned v/\Know w0 w' F (M.set i r') L:=h.callsI hc hi
end
end Go.Sk
namespace Go.Sk
open Go
section
variable {α:Type} {E:El α} {e:TypeId} {w0 w:World} {F:Nat->Prop} {M L:List Res}
theorem Know.seen {r r':Res} {i:Nat} (h:Know w0 w F M L) (ho: ∀ w S,r.p w S->r'.p w S) (hi:Ix M r i:=by repeat (first|exact Ix.head|apply Ix.tail)):Know w0 w F (M.set i r') L:=by
 obtain ⟨S,h1,h2⟩:=h.stepI hi
 exact h2 w r' ⟨Mod.refl _ _,S,ho w S h1,fun _ h=>.inl h⟩
variable {P:Program} {ops:Array Oper} {rest:List Oper} {o:Oper} {a:Act} {Q:Exit->Act->World->Prop}
end
end Go.Sk
namespace Go.Sk
open Go Go.ChangeShapes Go.WideShapes Go.ChangeAt Go.RowKit Go.Deep
structure Bulk (H:Type) where
 b:DataW H->Nat
 part: ∀ es sp (d:DataW H),d∈es->b d<=b (.slice es sp)
 len: ∀ es sp,es.length<=b (.slice es sp)
 agg: ∀ ds (d:DataW H),d∈ds->b d<=b (.agg ds)
section
variable {H:Type} {enc:TypeId×Value->H} {P:Program} {w w':World} {base:Nat} {spare:Nat->Bool} {held:Bool} (B:Bulk H)
theorem open_csB {α:Type} {E:El α} {R:α->Nat->Prop} {t e:TypeId} {n0:Nat} {cs:List Value} {z:DataW H×List MemPlace} (hR: ∀ a k k',R a k->k<=k'->R a k') (hsz:sizeB P e E.sz=true) (hpos:0<E.sz)
 (htr: ∀ n cs x,DataW.trod enc P w base spare held n e cs=some x-> ∃ a:α,cs=E.cells a/\R a (B.b x.1)) (ht:P.underlying t=some (.slice e))
 (hf:DataW.trod enc P w base spare held n0 t cs=some z):
 ∃ v,cs=[v]/\ ∃ l:List α,Rd w E v l/\l.length<=B.b z.1/\l.length<=maxLen/\ ∀ x∈l,R x (B.b z.1):=by
 have hco:P.cellsOf e=E.sz:=by
  have:=hsz
  unfold sizeB at this
  unfold Program.cellsOf
  cases hi:P.info? e with
  |none=>rw [hi] at this;cases this
  |some i=>rw [hi] at this;simpa using this
 rcases open_slice ht hf with ⟨h0,_⟩|⟨a,len,cap,m,n,D,Pl,hcs,hb,hl,hm,hmm,hz,hi⟩
 · exact ⟨_,h0,[],Rd.nil w E,by simp,by simp [maxLen],fun x hx=>by simp at hx⟩
 · refine ⟨_,hcs,?_⟩
   rw [hco] at hi
   have hlm:len<=m:=by rw [hmm];split<;>omega
   have hzl:len<=B.b z.1:=by
    rw [hz]
    have:=B.len ((List.range len).map D) ((List.range (m - len)).map fun j=>D (len+j))
    simpa using this
   have key: ∀ i,i<len-> ∃ x:α,(∀ j u,(E.cells x)[j]?=some u->w.cell? (a.add (i*E.sz+j))=some u)/\R x (B.b z.1):=by
    intro i hil
    obtain ⟨cs',hc,htr'⟩:=hi i (by omega)
    obtain ⟨_,hcl,hat⟩:=World.cells?_some hc
    obtain ⟨x,rfl,hn⟩:=htr n cs' _ htr'
    refine ⟨x,fun j u hu=>?_,hR _ _ _ hn ?_⟩
    · have hj:j<E.sz:=by rw [<-hcl];exact (List.getElem?_eq_some_iff.1 hu).1
      have:=hat j hj
      rw [Go.Deep.add_add] at this
      rw [this,hu]
    · rw [hz]
      exact B.part _ _ _ (List.mem_map_of_mem (List.mem_range.2 hil))
   by_cases hlen:len=0
   · subst hlen
     exact ⟨[],⟨by simp [flat],_,_,rfl,Nat.zero_le _,.inl rfl⟩,by simp,by simp [maxLen],fun x hx=>by simp at hx⟩
   ·
    have hspot:a.spot=none:=by
     obtain ⟨x,hx,_⟩:=key 0 (by omega)
     have h0:0<(E.cells x).length:=by rw [E.len];exact hpos
     have:=hx 0 _ (List.getElem?_eq_getElem h0)
     simp only [Nat.zero_mul,Nat.add_zero,Addr.add_zero'] at this
     unfold World.cell? at this
     split at this
     · split at this
       · cases this
       · rename_i hs;simpa using hs
     · cases this
    obtain ⟨b,o,sp⟩:=a
    simp only at hspot
    subst hspot
    refine ⟨(List.range len).attach.map fun i=>Classical.choose (key i.1 (List.mem_range.1 i.2)),?_,by simpa using hzl,by simp;omega,fun x hx=>?_⟩
    · refine ⟨by rw [E.flat_len],some ⟨b,o,none⟩,cap,by simp,by simpa using hl,.inr ⟨b,o,rfl,?_⟩⟩
      intro j u hu
      have hjl:j<len*E.sz:=by
       have:=(List.getElem?_eq_some_iff.1 hu).1
       rw [E.flat_len] at this
       simpa using this
      have hdiv:j / E.sz<len:=Nat.div_lt_of_lt_mul (by rw [Nat.mul_comm];exact hjl)
      have hmod:j % E.sz<E.sz:=Nat.mod_lt _ hpos
      have hget:((List.range len).attach.map fun i=>Classical.choose (key i.1 (List.mem_range.1 i.2)))[j / E.sz]?=some (Classical.choose (key (j / E.sz) hdiv)):=by
       rw [List.getElem?_map,List.getElem?_attach]
       simp [hdiv]
      have hx:=(Classical.choose_spec (key (j / E.sz) hdiv)).1
      have hcu:(E.cells (Classical.choose (key (j / E.sz) hdiv)))[j % E.sz]?=some ((E.cells (Classical.choose (key (j / E.sz) hdiv)))[j % E.sz]'(by rw [E.len];exact hmod)):=List.getElem?_eq_getElem _
      have h1:=flat_get E.cells E.sz E.len _ _ _ hget _ _ hcu
      have hj:j / E.sz*E.sz+j % E.sz=j:=by rw [Nat.mul_comm];exact Nat.div_add_mod j E.sz
      rw [hj] at h1
      have h2:=hx _ _ hcu
      rw [h1] at hu
      rw [Option.some.inj hu,add_at,hj] at h2
      exact h2
    · obtain ⟨i,_,rfl⟩:=List.mem_map.1 hx
      exact (Classical.choose_spec (key i.1 (List.mem_range.1 i.2))).2
theorem open_plainB {α:Type} {E:El α} {e:TypeId} {ks:List (Option IntKind)} (T:ElTy P e E ks) (n:Nat) (cs:List Value) (x:DataW H×List MemPlace) (h:DataW.trod enc P w base spare held n e cs=some x): ∃ a:α,cs=E.cells a/\ ∀ u∈E.cells a,okNum u:=by
 obtain ⟨hk,hn⟩:=trod_plain 9 e ks n cs x T.kinds T.size h
 obtain ⟨a,rfl⟩:=T.ofk cs hk
 exact ⟨a,rfl,hn⟩
theorem open_listB {α:Type} {E:El α} {R:α->Nat->Prop} {t e:TypeId} {v:Value} {d:DataW H} {ps:List MemPlace} (hR: ∀ a k k',R a k->k<=k'->R a k') (hsz:sizeB P e E.sz=true) (hpos:0<E.sz)
 (htr: ∀ n cs x,DataW.trod enc P w base spare held n e cs=some x-> ∃ a:α,cs=E.cells a/\R a (B.b x.1)) (ht:P.underlying t=some (.slice e))
 {r:Reach} {b0:Nat} (hv:Value.okWide P w r b0 t v) (h:DataW.Trod enc P w base spare held t v d ps):
 ∃ l:List α,Rd w E v l/\l.length<=B.b d/\ ∀ x∈l,R x (B.b d):=by
 obtain ⟨fuel,hf⟩:=h
 obtain ⟨ad,len,cap,rfl⟩:=okWide_slice ht hv
 obtain ⟨v',h1,l,h2,h3,_,h4⟩:=open_csB B hR hsz hpos htr ht hf
 have h1':[Value.slice ad len cap]=[v']:=h1
 injection h1' with h1' _
 subst h1'
 exact ⟨l,h2,h3,h4⟩
end
theorem okNum_i64 {n:Int} (h:okNum (.int .i64 n)): -9223372036854775808<=n/\n<=9223372036854775807:=by
 have:=h .i64 n rfl
 simp [Lit.wf,IntKind.min,IntKind.max,IntKind.signed,IntKind.bits] at this
 exact this
end Go.Sk
namespace Go.Proofs.YtngeeilkpnihmaaGreatDoor
open Go Go.Sk Go.RowKit
set_option maxRecDepth 100000
structure SM where
 f:Cell->List Int
 ld:List Int
def SM.liftE (c:ConfP) (m:SM) (i:Int) (x:Cell):Int:=Go.Proofs.YtngeeilkpnihmaaGreatDoor.liftE c m.f m.ld i x
def SM.liftV (c:ConfP) (m:SM) (i:Int) (x:Cell):Int:=if m.liftE c i x=0 then (m.f x).getLastD 0 else 0
def SM.lift (c:ConfP) (m:SM) (i:Int) (x:Cell):SM:=if m.liftE c i x=0 then ⟨putF m.f x (m.f x).dropLast,m.ld.set i.toNat ((m.f x).getLastD 0)⟩ else m
def SM.dropE (c:ConfP) (m:SM) (i:Int) (x:Cell):Int:=Go.Proofs.YtngeeilkpnihmaaGreatDoor.dropE c m.f m.ld i x
def SM.drop (c:ConfP) (m:SM) (i:Int) (x:Cell):SM:=if m.dropE c i x=0 then ⟨putF m.f x (m.f x++[m.ld.getD i.toNat 0]),m.ld.set i.toNat 0⟩ else m
def SM.height (c:ConfP) (m:SM) (x:Cell):Int:=if openB c x then ((m.f x).length:Int) else -1
def SM.top (c:ConfP) (m:SM) (x:Cell):Int:=if openB c x then (m.f x).getLastD 0 else 0
def SM.load (m:SM) (i:Int):Int:=if 0<=i/\i<m.ld.length then m.ld.getD i.toNat 0 else 0
def SM.start (c:ConfP):SM:=⟨binsIn c.stacks,List.replicate c.robots.length 0⟩
def areaOf (c:ConfP):Nat:=(c.w*c.h).toNat
def SM.told (c:ConfP) (m:SM):List StackP:=toldTo c m.f (areaOf c)
structure SMOk (c:ConfP) (m:SM):Prop where
 may:MayP c
 short: ∀ x,(m.f x).length<=1024
 robots:m.ld.length=c.robots.length
 closed: ∀ x,openB c x=false->m.f x=[]
theorem SMOk.n8 {c:ConfP} {m:SM} (h:SMOk c m):m.ld.length<=8:=by rw [h.robots];exact h.may.robots8
theorem area_eq {c:ConfP} (h:MayP c):c.w*c.h=areaOf c/\areaOf c<=256:=by
 have:=(nums_iff.1 h.nums).area
 unfold areaOf
 omega
theorem told_len {c:ConfP} {m:SM} (h:MayP c):(m.told c).length<=256:=Nat.le_trans (toldTo_le _) (area_eq h).2
@[irreducible] def rSTK (c:ConfP) (p:Nat) (m:SM):Res where
  p w S:= ∃ s:StV,s.p=p/\s.loads=m.ld/\StOk c s m.f/\SMOk c m/\Sep w (rSt c s) S
  loc:=by rintro w w' S ⟨s,h1,h2,h3,h4,h5⟩ he;exact ⟨s,h1,h2,h3,h4,h5.loc he⟩
  lt:=by rintro w S ⟨s,_,_,_,_,h⟩;exact h.lt
theorem rSTK_p {c:ConfP} {p:Nat} {m:SM} {w:World} {S:Nat->Prop}:(rSTK c p m).p w S ↔ ∃ s:StV,s.p=p/\s.loads=m.ld/\StOk c s m.f/\SMOk c m/\Sep w (rSt c s) S:=by unfold rSTK;exact Iff.rfl
theorem Has.stk {c:ConfP} {p:Nat} {m:SM} {w:World} (h:Has w (rSTK c p m)): ∃ s:StV,s.p=p/\s.loads=m.ld/\StOk c s m.f/\SMOk c m/\ ∀ r∈rSt c s,Has w r:=by
 obtain ⟨S,h⟩:=h
 obtain ⟨s,h1,h2,h3,h4,h5⟩:=rSTK_p.1 h
 exact ⟨s,h1,h2,h3,h4,fun r hr=>h5.has hr⟩
theorem start_ok {c:ConfP} (h:MayP c):SMOk c (SM.start c):=by
 refine ⟨h,fun x=>?_,by simp [SM.start],fun x hx=>?_⟩
 · show (binsIn c.stacks x).length<=1024
   unfold binsIn
   cases hf:c.stacks.find? fun s=>decide (s.at_=x) with
   |none=>simp
   |some s=>
    have:=(h.stacked s (List.mem_of_find?_eq_some hf)).2
    have:=(nums_iff.1 h.nums).height
    simp only [Option.map_some,Option.getD_some]
    omega
 · show binsIn c.stacks x=[]
   unfold binsIn
   cases hf:c.stacks.find? fun s=>decide (s.at_=x) with
   |none=>simp
   |some s=>
    have h1:=(h.stacked s (List.mem_of_find?_eq_some hf)).1
    have h2:s.at_=x:=by simpa using List.find?_some hf
    rw [h2] at h1
    unfold stackedB at h1
    rw [hx] at h1
    cases h1
theorem k_new {c:ConfV} {w:World} (hc:Has w (rConf c)) (hst:Has w stepsR) (hz:Sized c) (hwf: ∀ p∈c.robots.l,PoseWf p):Calls Tryz.prog 33 #[.agg c.cells.toArray] w fun e w'=>
 (¬ MayP c.p/\e=.returned (.tuple #[.pointer none,.int .i64 5])/\Mod none' w w')\/
 (MayP c.p/\ ∃ p,e=.returned (.tuple #[.pointer (some ⟨p,0,none⟩),.int .i64 0])/\Turn (rSTK c.p p (SM.start c.p)) w w' none'):=by
 refine (snew_calls hc hst hz hwf).mono ?_
 rintro e w' (h|⟨hm,s,rfl,hA,hr,hl,hm2,S',hS,hb⟩)
 · exact .inl h
 · refine .inr ⟨hm,s.p,rfl,hm2,S',rSTK_p.2 ⟨s,rfl,hl,?_,start_ok hm,hS⟩,hb⟩
   have h1:=(start_ok hm)
   exact ⟨hm,by rw [hA];exact (area_eq hm).1,hr,h1.short,by rw [hl,List.length_replicate];exact hm.robots8⟩
theorem lift_ok {c:ConfP} {m:SM} {i:Int} {x:Cell} (h:SMOk c m):SMOk c (m.lift c i x):=by
 unfold SM.lift
 split
 · rename_i he
   have ho:openB c x=true:=by
    unfold SM.liftE Go.Proofs.YtngeeilkpnihmaaGreatDoor.liftE at he
    by_cases hc:openB c x=true/\0<=i/\i<m.ld.length
    · exact hc.1
    · rw [if_neg hc] at he;omega
   refine ⟨h.may,fun y=>?_,by simp [h.robots],fun y hy=>?_⟩
   · show (putF m.f x _ y).length<=1024
     unfold putF
     split
     · rw [List.length_dropLast];have:=h.short x;omega
     · exact h.short y
   · show putF m.f x _ y=[]
     unfold putF
     rw [if_neg (fun e=>by rw [e,ho] at hy;cases hy)]
     exact h.closed y hy
 · exact h
theorem drop_ok {c:ConfP} {m:SM} {i:Int} {x:Cell} (h:SMOk c m):SMOk c (m.drop c i x):=by
 unfold SM.drop
 split
 · rename_i he
   unfold SM.dropE Go.Proofs.YtngeeilkpnihmaaGreatDoor.dropE at he
   by_cases hc:openB c x=true/\0<=i/\i<m.ld.length
   · rw [if_pos hc] at he
     split at he
     · omega
     · split at he
       · omega
       · rename_i hr
         have ho:=hc.1
         refine ⟨h.may,fun y=>?_,by simp [h.robots],fun y hy=>?_⟩
         · show (putF m.f x _ y).length<=1024
           unfold putF
           split
           · rw [List.length_append]
             have h8:=(nums_iff.1 h.may.nums).height
             have:roomP c x<=8:=by unfold roomP;split<;>(try split)<;>omega
             simp only [List.length_cons,List.length_nil]
             omega
           · exact h.short y
         · show putF m.f x _ y=[]
           unfold putF
           rw [if_neg (fun e=>by rw [e,ho] at hy;cases hy)]
           exact h.closed y hy
   · rw [if_neg hc] at he;omega
 · exact h
theorem k_lift {c:ConfP} {p:Nat} {m:SM} {i:Int} {x:Cell} {w:World} {S:Nat->Prop} (h:(rSTK c p m).p w S):Calls Tryz.prog 67 #[.pointer (some ⟨p,0,none⟩),.int .i64 i,.agg x.cells.toArray] w fun e w'=>
 e=.returned (.tuple #[.int .i64 (m.liftV c i x),.int .i64 (m.liftE c i x)])/\Turn (rSTK c p (m.lift c i x)) w w' S:=by
 obtain ⟨s,rfl,h2,h3,h4,h5⟩:=rSTK_p.1 h
 refine (s_lift (i:=i) (x:=x) (Know.startS h5 (by simp)) h3).mono ?_
 rintro e w' (⟨he,rfl,hm,S',k1,k2⟩|⟨he,s',rfl,j1,j2,j3,hm,S',k1,k2⟩)
 · rw [h2] at he
   have he':m.liftE c i x≠0:=he
   refine ⟨by unfold SM.liftV;rw [if_neg he',h2];rfl,hm,S',?_,k2⟩
   unfold SM.lift
   rw [if_neg he']
   exact rSTK_p.2 ⟨s,rfl,h2,h3,h4,k1⟩
 · rw [h2] at he
   have he':m.liftE c i x=0:=he
   refine ⟨by unfold SM.liftV;rw [if_pos he',he'],hm,S',rSTK_p.2 ⟨s',j2,?_,?_,lift_ok h4,k1⟩,k2⟩
   · unfold SM.lift
     rw [if_pos he',j3,h2]
   · unfold SM.lift
     rw [if_pos he']
     exact j1
theorem k_drop {c:ConfP} {p:Nat} {m:SM} {i:Int} {x:Cell} {w:World} {S:Nat->Prop} (h:(rSTK c p m).p w S):Calls Tryz.prog 70 #[.pointer (some ⟨p,0,none⟩),.int .i64 i,.agg x.cells.toArray] w fun e w'=>
 e=.returned (.int .i64 (m.dropE c i x))/\Turn (rSTK c p (m.drop c i x)) w w' S:=by
 obtain ⟨s,rfl,h2,h3,h4,h5⟩:=rSTK_p.1 h
 refine (s_drop (i:=i) (x:=x) (Know.startS h5 (by simp)) h3).mono ?_
 rintro e w' (⟨he,rfl,hm,S',k1,k2⟩|⟨he,s',rfl,j1,j2,j3,hm,S',k1,k2⟩)
 · rw [h2] at he
   have he':m.dropE c i x≠0:=he
   refine ⟨by rw [h2];rfl,hm,S',?_,k2⟩
   unfold SM.drop
   rw [if_neg he']
   exact rSTK_p.2 ⟨s,rfl,h2,h3,h4,k1⟩
 · rw [h2] at he
   have he':m.dropE c i x=0:=he
   refine ⟨by rw [he'],hm,S',rSTK_p.2 ⟨s',j2,?_,?_,drop_ok h4,k1⟩,k2⟩
   · unfold SM.drop
     rw [if_pos he',j3,h2]
   · unfold SM.drop
     rw [if_pos he',<-h2]
     exact j1
theorem k_load {c:ConfP} {p:Nat} {m:SM} {i:Int} {w:World} (h:Has w (rSTK c p m)):Calls Tryz.prog 69 #[.pointer (some ⟨p,0,none⟩),.int .i64 i] w (Ret (.int .i64 (m.load i)) w):=by
 obtain ⟨s,rfl,h2,h3,h4,h5⟩:=Has.stk h
 have:=s_load (i:=i) (StAt.has h5)
 rw [h2] at this
 exact this
end Go.Proofs.YtngeeilkpnihmaaGreatDoor
