/- Chapter 8's own answer: its state in memory; place, room. -/
import Derived.Test.YtngeeilkpnihmaaGreatDoorTnZ
import Derived.Test.YtngeeilkpnihmaaGreatDoorSkDZ
set_option linter.all false
namespace Go.Proofs.YtngeeilkpnihmaaGreatDoor
open Go Go.Sk Go.RowKit
set_option maxRecDepth 100000
theorem told_put {c:ConfP} {m:SM} {x:Cell} {ys:List Int} {ld:List Int}:SM.told c ⟨putF m.f x ys,ld⟩=(m.told c).map fun s=>if s.at_=x then ⟨x,ys⟩ else s:=by
 unfold SM.told toldTo
 rw [List.map_filterMap]
 congr 1
 funext k
 unfold tellOne
 split
 · simp only [Option.map_some]
   unfold putF
   split
   · rename_i h;rw [h]
   · rfl
 · rfl
theorem cellAt_inj {w:Int} (hw:1<=w) {j k:Nat} (h:cellAt w j=cellAt w k):j=k:=by
 have h1:(j:Int) % w=(k:Int) % w:=congrArg Cell.x h
 have h2:(j:Int) / w=(k:Int) / w:=congrArg Cell.y h
 have e1:=Int.mul_ediv_add_emod (j:Int) w
 have e2:=Int.mul_ediv_add_emod (k:Int) w
 rw [h1,h2] at e1
 omega
theorem told_nodup {c:ConfP} {m:SM} (hm:MayP c):((m.told c).map (·.at_)).Nodup:=by
 have hw:=(nums_iff.1 hm.nums).w.1
 unfold SM.told toldTo
 rw [List.nodup_iff_pairwise_ne,List.pairwise_map,List.pairwise_filterMap]
 refine (List.nodup_iff_pairwise_ne.1 List.nodup_range).imp fun {a b} hab s hs t ht he=>?_
 unfold tellOne at hs ht
 split at hs
 · split at ht
   · injection hs with hs
     injection ht with ht
     subst hs ht
     exact hab (cellAt_inj hw he)
   · cases ht
 · cases hs
theorem set_map {l:List StackP} (hn:(l.map (·.at_)).Nodup) {i:Nat} {s t:StackP} (hi:l[i]?=some s):l.set i t=l.map fun u=>if u.at_=s.at_ then t else u:=by
 apply List.ext_getElem?
 intro k
 rw [List.getElem?_set,List.getElem?_map]
 by_cases hk:i=k
 · subst hk
   rw [if_pos rfl,if_pos (List.getElem?_eq_some_iff.1 hi).1,hi]
   simp
 · rw [if_neg hk]
   cases hu:l[k]? with
   |none=>rfl
   |some u=>
    simp only [Option.map_some]
    rw [if_neg]
    intro he
    rw [List.nodup_iff_pairwise_ne,List.pairwise_map] at hn
    obtain ⟨h1,h2⟩:=List.getElem?_eq_some_iff.1 hi
    obtain ⟨h3,h4⟩:=List.getElem?_eq_some_iff.1 hu
    rcases Nat.lt_or_gt_of_ne hk with h|h
    · exact List.pairwise_iff_getElem.1 hn i k h1 h3 h (by rw [h2,h4,he])
    · exact List.pairwise_iff_getElem.1 hn k i h3 h1 h (by rw [h2,h4,he])
theorem told_set {c:ConfP} {m:SM} (hm:MayP c) {i:Nat} {s:StackP} (hi:(m.told c)[i]?=some s) (ys ld:List Int):(m.told c).set i ⟨s.at_,ys⟩=SM.told c ⟨putF m.f s.at_ ys,ld⟩:=by
 rw [told_put,set_map (told_nodup hm) hi]
def placeP (c:ConfP) (m:SM) (x:Cell):Int:=match (m.told c).findIdx? (fun s=>decide (s.at_=x)) with
 |some i=>(i:Int)
 |none=> -1
theorem place_ways {c:ConfP} {m:SM} (hm:MayP c) (x:Cell):(openB c x=false/\placeP c m x= -1)\/(openB c x=true/\ ∃ i:Nat,placeP c m x=(i:Int)/\(m.told c)[i]?=some ⟨x,m.f x⟩):=by
 unfold placeP
 cases h:(m.told c).findIdx? (fun s=>decide (s.at_=x)) with
 |none=>
  left
  refine ⟨?_,rfl⟩
  cases ho:openB c x with
  |false=>rfl
  |true=>
   have:=List.findIdx?_eq_none_iff.1 h _ (told_has hm ho (m:=m))
   simp at this
 |some i=>
  right
  obtain ⟨hi,hp,_⟩:=List.findIdx?_eq_some_iff_getElem.1 h
  have hx:((m.told c)[i]).at_=x:=by simpa using hp
  have ho:=told_open _ (List.getElem_mem hi)
  rw [hx] at ho
  refine ⟨ho.1,i,rfl,?_⟩
  rw [List.getElem?_eq_getElem hi]
  congr 1
  show (m.told c)[i]=⟨x,m.f x⟩
  rw [<-ho.2,<-hx]
structure RfV where
 p:Nat
 cells:Sv StackV
 loads:Sv Int
abbrev rdRes (s:StackV):Res:=rRd elInt s.bins.val s.bins.l
def rfCells (c:ConfV) (v:RfV):List Value:=c.cells++[v.cells.val,v.loads.val]
def rRf (c:ConfV) (v:RfV):List Res:=[rMany (v.cells.l.map rdRes),rBlk v.p (rfCells c v) 102,rOw 85 elStack v.cells.val v.cells.l,rOw 3 elInt v.loads.val v.loads.l]
structure RfOk (c:ConfV) (v:RfV) (m:SM):Prop where
 cells:v.cells.l.map StackV.p=m.told c.p
 loads:v.loads.l=m.ld
 ok:SMOk c.p m
@[irreducible] def rREF (c:ConfV) (p:Nat) (m:SM):Res where
  p w S:= ∃ v:RfV,v.p=p/\RfOk c v m/\Sep w (rRf c v) S
  loc:=by rintro w w' S ⟨s,h1,h2,h5⟩ he;exact ⟨s,h1,h2,h5.loc he⟩
  lt:=by rintro w S ⟨s,_,_,h⟩;exact h.lt
theorem rREF_p {c:ConfV} {p:Nat} {m:SM} {w:World} {S:Nat->Prop}:(rREF c p m).p w S ↔ ∃ v:RfV,v.p=p/\RfOk c v m/\Sep w (rRf c v) S:=by unfold rREF;exact Iff.rfl
theorem Know.ref {c:ConfV} {p:Nat} {m:SM} {w:World} {S:Nat->Prop} {L:List Res} (h:Know w w S [rREF c p m] L): ∃ v:RfV,v.p=p/\RfOk c v m/\Know w w S (rRf c v) L:=by
 obtain ⟨hm,U,⟨S1,V,h1,h2,h3,h4⟩,h5,h6⟩:=h
 obtain ⟨v,k1,k2,k3⟩:=rREF_p.1 h1
 have hU: ∀ b,U b ↔ S1 b:=fun b=>(h4 b).trans ⟨fun h=>h.resolve_right (h2 b),.inl⟩
 exact ⟨v,k1,k2,hm,S1,k3,fun b hb=>h5 b ((hU b).2 hb),fun r hr=>by
  obtain ⟨T,i1,i2⟩:=h6 r hr
  exact ⟨T,i1,fun b hb hs=>i2 b hb ((hU b).2 hs)⟩⟩
theorem Turns.ref {c:ConfV} {v:RfV} {m:SM} {w w':World} {S:Nat->Prop} (h:Turns (rRf c v) w w' S) (hv:RfOk c v m):Turn (rREF c v.p m) w w' S:=by
 obtain ⟨h1,S',h2,h3⟩:=h
 exact ⟨h1,S',rREF_p.2 ⟨v,rfl,hv,h2⟩,h3⟩
theorem Has.ref {c:ConfV} {p:Nat} {m:SM} {w:World} (h:Has w (rREF c p m)): ∃ v:RfV,v.p=p/\RfOk c v m/\ ∀ r∈rRf c v,Has w r:=by
 obtain ⟨S,h⟩:=h
 obtain ⟨v,k1,k2,k3⟩:=rREF_p.1 h
 exact ⟨v,k1,k2,fun r hr=>k3.has hr⟩
theorem RfOk.len {c:ConfV} {v:RfV} {m:SM} (h:RfOk c v m):v.cells.l.length<=256:=by
 have h1:=congrArg List.length h.cells
 rw [List.length_map] at h1
 have:=told_len (m:=m) h.ok.may
 omega
set_option maxHeartbeats 2000000 in
theorem rf_place {c:ConfV} {v:RfV} {m:SM} {x:Cell} {w:World} (hg1:Has w (rBlk v.p (rfCells c v) 102)) (hg2:Has w (rOw 85 elStack v.cells.val v.cells.l)) (h:RfOk c v m):Calls Tryz.prog 129 #[.pointer (some ⟨v.p,0,none⟩),.agg x.cells.toArray] w (Ret (.int .i64 (placeP c.p m x)) w):=by
 have hK:Know w w none' [] [rBlk v.p (rfCells c v) 102,rOw 85 elStack v.cells.val v.cells.l]:=Know.start (L:=[rBlk v.p (rfCells c v) 102,rOw 85 elStack v.cells.val v.cells.l]) w (by
  intro r hr
  simp only [List.mem_cons,List.not_mem_nil,or_false] at hr
  rcases hr with rfl|rfl
  · exact hg1
  · exact hg2)
 clear hg1 hg2
 have hlen:=h.len
 have HC:=Lib.hid h.cells
 obtain ⟨q,hq⟩: ∃ q,q=placeP c.p m x:=⟨_,rfl⟩
 have HQ:Hid (∀ (i:Nat) (u:StackV),v.cells.l[i]?=some u->u.at_=x->(∀ (k:Nat) (u:StackV),k<i->v.cells.l[k]?=some u->u.at_≠x)->q=(i:Int)):=by
  intro i u hu hx hb
  rw [hq]
  unfold placeP
  rw [<-h.cells]
  have:(v.cells.l.map StackV.p).findIdx? (fun s=>decide (s.at_=x))=some i:=by
   rw [List.findIdx?_eq_some_iff_getElem]
   obtain ⟨h1,h2⟩:=List.getElem?_eq_some_iff.1 hu
   refine ⟨by simpa using h1,?_,fun k hk=>?_⟩
   · simp only [List.getElem_map,decide_eq_true_eq]
     rw [h2];exact hx
   · simp only [List.getElem_map,decide_eq_true_eq]
     exact hb k _ hk (List.getElem?_eq_getElem (by omega))
  rw [this]
 have HN:Hid ((∀ (k:Nat) (u:StackV),v.cells.l[k]?=some u->u.at_≠x)->q= -1):=by
  intro hb
  rw [hq]
  unfold placeP
  rw [<-h.cells]
  have:(v.cells.l.map StackV.p).findIdx? (fun s=>decide (s.at_=x))=none:=by
   rw [List.findIdx?_eq_none_iff]
   intro s hs
   obtain ⟨u,hu,rfl⟩:=List.mem_map.1 hs
   obtain ⟨k,hk⟩:=List.mem_iff_getElem?.1 hu
   have:=hb k u hk
   simp only [decide_eq_false_iff_not]
   exact this
  rw [this]
 rw [<-hq]
 clear hq h
 go_enter Tryz.func129,Tryz.ntmps129
 go_wp2_with (first
  |((with_reducible refine wb 3 ?_)
    (refine wl_boxK hK rfl rfl rfl rfl ?_;clear hK;intro w3 b3 hK))
  |go_big_skip
  |((with_reducible refine wl ?_);refine ldQ ?_)
  |(with_reducible refine en ?_))
 go_loopg [4,5] v.cells.l.length (fun k r4 i wr=> ∃ j:Nat,r4=.int .i64 0/\i=.int .i64 j/\k=v.cells.l.length - j/\j<=v.cells.l.length/\Hid (∀ (k:Nat) (u:StackV),k<j->v.cells.l[k]?=some u->u.at_≠x)/\
  Know w wr none' [rBlk b3 x.cells 34] [rBlk v.p (rfCells c v) 102,rOw 85 elStack v.cells.val v.cells.l])
 case atStart=>exact ⟨0,rfl,rfl,by omega,Nat.zero_le _,fun k u hk=>by omega,hK⟩
 case round=>
  obtain ⟨j,rfl,rfl,rfl,hj,hb,hK⟩:=hrel
  by_cases hlt:j<v.cells.l.length
  · obtain ⟨u,hu0⟩: ∃ u,v.cells.l[j]?=some u:=⟨_,List.getElem?_eq_getElem hlt⟩
    have HU:=Lib.hid hu0
    clear hu0
    by_cases hx:u.at_=x
    · have d1:decide (u.at_=x)=true:=decide_eq_true hx
      have HX:=Lib.hid hx
      clear hx
      go_wp2_with (first
       |((with_reducible refine wt 20 ?_)
         (refine wl_ixK hK rfl rfl rfl rfl stackTy.und stackTy.size (h:=?_);intro b20 k20 hat20))
       |((with_reducible refine wt 22 ?_)
         (refine wl_loadP0 (Cell.cells (u.at_)) rfl rfl rfl (aggT (by decide)) (h:=?_)))
       |((with_reducible refine wl_at (o:=⟨_,.binOp .eql 34 _ _ _,_,_,_,_⟩) ?_)
         (refine wl_eqlC cellEq rfl rfl rfl rfl ?_))
       |((with_reducible refine wl_at (o:=⟨_,.binOp .neq 34 _ _ _,_,_,_,_⟩) ?_)
         (refine wl_neqC cellEq rfl rfl rfl rfl ?_))
       |((with_reducible refine tx 4 hK ?_);clear hK;intro w' hK)
       |go_big_skip
       |((with_reducible refine wl ?_);refine ldQ ?_)
       |(with_reducible refine en ?_))
      go_ret
      exact ⟨by rw [HQ.out j u HU.out HX.out hb.out];rfl,hK.mod⟩
    · have d1:decide (u.at_=x)=false:=decide_eq_false hx
      have HX:=Lib.hid hx
      clear hx
      go_wp2_with (first
       |((with_reducible refine wt 20 ?_)
         (refine wl_ixK hK rfl rfl rfl rfl stackTy.und stackTy.size (h:=?_);intro b20 k20 hat20))
       |((with_reducible refine wt 22 ?_)
         (refine wl_loadP0 (Cell.cells (u.at_)) rfl rfl rfl (aggT (by decide)) (h:=?_)))
       |((with_reducible refine wl_at (o:=⟨_,.binOp .eql 34 _ _ _,_,_,_,_⟩) ?_)
         (refine wl_eqlC cellEq rfl rfl rfl rfl ?_))
       |((with_reducible refine wl_at (o:=⟨_,.binOp .neq 34 _ _ _,_,_,_,_⟩) ?_)
         (refine wl_neqC cellEq rfl rfl rfl rfl ?_))
       |((with_reducible refine tx 4 hK ?_);clear hK;intro w' hK)
       |go_big_skip
       |((with_reducible refine wl ?_);refine ldQ ?_)
       |(with_reducible refine en ?_))
      go_roundg (v.cells.l.length - (j+1))
      case measure=>omega
      case rel=>
       refine ⟨j+1,rfl,by go_num,rfl,by omega,fun k u' hk hu'=>?_,hK⟩
       by_cases e:k=j
       · subst e
         rw [HU.out] at hu'
         injection hu' with hu'
         subst hu'
         exact HX.out
       · exact hb.out k u' (by omega) hu'
  · obtain rfl:j=v.cells.l.length:=by omega
    go_wp2_with (first
     |go_big_skip
     |((with_reducible refine wl ?_);refine ldQ ?_)
     |(with_reducible refine en ?_))
    go_ret
    exact ⟨by rw [HN.out fun k u hu=>hb.out k u (List.getElem?_eq_some_iff.1 hu).1 hu];rfl,hK.mod⟩
theorem conf_at {w:World} {c:ConfV} {v:RfV} (h:Blk w v.p (rfCells c v) 102):At w v.p 0 c.cells:=h.at fun j u hu=>by
 rw [Nat.zero_add]
 unfold rfCells
 rw [List.getElem?_append_left (List.getElem?_eq_some_iff.1 hu).1]
 exact hu
set_option maxHeartbeats 2000000 in
theorem rf_room {c:ConfV} {v:RfV} {x:Cell} {w:World} (hg:Has w (rBlk v.p (rfCells c v) 102)) (hc:Has w (rConf c)) (hz:Sized c):Calls Tryz.prog 130 #[.pointer (some ⟨v.p,0,none⟩),.agg x.cells.toArray] w (Ret (.int .i64 (roomP c.p x)) w):=by
 have hK:Know w w none' [] [rConf c,rBlk v.p (rfCells c v) 102]:=Know.start (L:=[rConf c,rBlk v.p (rfCells c v) 102]) w (by
  intro r hr
  simp only [List.mem_cons,List.not_mem_nil,or_false] at hr
  rcases hr with rfl|rfl
  · exact hc
  · exact hg)
 obtain ⟨st,hst⟩: ∃ b,b=stackedB c.p x:=⟨_,rfl⟩
 have HZ:=Lib.hid hz
 have kS:=Lib.hid (fun (W:World) (h:Has W (rConf c))=>show Calls Tryz.prog 73 #[.agg c.cells.toArray,.agg x.cells.toArray] W (Ret (.bool st) W) by rw [hst];exact ref_stacked h HZ.out)
 obtain ⟨po,hpo⟩: ∃ b,b=portOf c.p x:=⟨_,rfl⟩
 have kP:=Lib.hid (fun (W:World) (h:Has W (rConf c))=>show Calls Tryz.prog 95 #[.agg c.cells.toArray,.agg x.cells.toArray] W (Ret (.int .i64 po) W) by rw [hpo];exact ref_port h HZ.out)
 have hpe:=port_iff (c:=c.p) (x:=x)
 rw [<-hpo] at hpe
 have hro:roomP c.p x=if 0<=po then 1 else if st=true then c.height else 0:=by
  unfold roomP
  rw [hst]
  by_cases hp:x∈c.p.ports
  · rw [if_pos hp,if_pos (hpe.2 hp)]
  · rw [if_neg hp,if_neg (fun h=>hp (hpe.1 h))]
    rfl
 clear hst hpo hpe hc hg
 by_cases hp:0<=po
 · rw [if_pos hp] at hro
   rw [hro]
   have q1:decide (0<=po)=true:=decide_eq_true hp
   clear hro hp
   go_enter Tryz.func130,Tryz.ntmps130
   go_wp2_with (first
    |((with_reducible refine wb 3 ?_)
      (refine wl_boxK hK rfl rfl rfl rfl ?_;clear hK;intro w3 b3 hK))
    |((with_reducible refine wt 8 ?_);(refine wl_loadS rfl rfl rfl (aggT (by decide)) rfl (conf_at hK.blk) ?_))
    |(go_at_call 95;(refine (hK.quiet (kP.out _ hK.lent)).mono ?_;clear hK;rintro e w' ⟨rfl,hK⟩))
    |((with_reducible refine tx 1 hK ?_);clear hK;intro w' hK)
    |go_big_skip
    |((with_reducible refine wl ?_);refine ldQ ?_)
    |(with_reducible refine en ?_))
   go_ret
   exact ⟨rfl,hK.mod⟩
 · rw [if_neg hp] at hro
   rw [hro]
   have q1:decide (0<=po)=false:=decide_eq_false hp
   clear hro hp
   cases st
   all_goals
    go_enter Tryz.func130,Tryz.ntmps130
    go_wp2_with (first
     |((with_reducible refine wb 3 ?_)
       (refine wl_boxK hK rfl rfl rfl rfl ?_;clear hK;intro w3 b3 hK))
     |((with_reducible refine wt 8 ?_);(refine wl_loadS rfl rfl rfl (aggT (by decide)) rfl (conf_at hK.blk) ?_))
     |((with_reducible refine wt 15 ?_);(refine wl_loadS rfl rfl rfl (aggT (by decide)) rfl (conf_at hK.blk) ?_))
     |(go_at_call 95;(refine (hK.quiet (kP.out _ hK.lent)).mono ?_;clear hK;rintro e w' ⟨rfl,hK⟩))
     |(go_at_call 73;(refine (hK.quiet (kS.out _ hK.lent)).mono ?_;clear hK;rintro e w' ⟨rfl,hK⟩))
     |((with_reducible refine tx 1 hK ?_);clear hK;intro w' hK)
     |((with_reducible refine tx 3 hK ?_);clear hK;intro w' hK)
     |go_big_skip
     |((with_reducible refine wl ?_);refine ldQ ?_)
     |(with_reducible refine en ?_))
    go_ret
    exact ⟨rfl,hK.mod⟩
end Go.Proofs.YtngeeilkpnihmaaGreatDoor
