/- Texts of mine that belong together: Kp, Bn3, Dwk. -/
import Derived.Test.YtngeeilkpnihmaaGreatDoorBnAZ
import Derived.Test.YtngeeilkpnihmaaGreatDoorR8fZ
import Derived.Test.YtngeeilkpnihmaaGreatDoorDwFZ
set_option linter.all false
namespace Go.Proofs.YtngeeilkpnihmaaGreatDoor
open Go Go.Sk Go.RowKit
set_option maxRecDepth 100000
abbrev nz:Int->Bool:=fun b=>b !=0
theorem cut_at {α:Type} {l:List α} {i:Nat} {x:α} (h:l[i]?=some x):l=l.take i++x::l.drop (i+1):=by
 obtain ⟨h1,h2⟩:=List.getElem?_eq_some_iff.1 h
 rw [<-h2,<-List.drop_eq_getElem_cons h1,List.take_append_drop]
theorem set_cut {α:Type} {l:List α} {i:Nat} {x y:α} (h:l[i]?=some x):l.set i y=l.take i++y::l.drop (i+1):=by
 rw [List.set_eq_take_append_cons_drop,if_pos (List.getElem?_eq_some_iff.1 h).1]
theorem cnt_cells {l:List StackP} {q:Nat} {s t:StackP} (h:l[q]?=some s) (b:Int):((l.set q t).flatMap (·.bins)).count b+s.bins.count b=(l.flatMap (·.bins)).count b+t.bins.count b:=by
 rw [set_cut h]
 conv=>rhs;rw [cut_at h]
 simp only [List.flatMap_append,List.flatMap_cons,List.count_append]
 omega
theorem cnt_loads {l:List Int} {k:Nat} {u v:Int} (h:l[k]?=some u) (b:Int):((l.set k v).filter nz).count b+([u].filter nz).count b=(l.filter nz).count b+([v].filter nz).count b:=by
 have e: ∀ x:Int,x::l.drop (k+1)=[x]++l.drop (k+1):=fun _=>rfl
 rw [set_cut h]
 conv=>rhs;rw [cut_at h]
 rw [e u,e v]
 simp only [List.filter_append,List.count_append]
 omega
theorem raw_lift {c:ConfP} {m:SM} {i:Int} {x:Cell} (ok:SMOk c m) (pos: ∀ y b,b∈m.f y->1<=b) (h:m.liftE c i x=0):((m.lift c i x).raw c).Perm (m.raw c):=by
 obtain ⟨h1,h2,h3,h4,h5⟩:=lift_zero h
 rw [lift_at h]
 obtain ⟨⟨q,hq⟩⟩:Nonempty (∃ q:Nat,(m.told c)[q]?=some ⟨x,m.f x⟩):=⟨List.mem_iff_getElem?.1 (told_has ok.may h1)⟩
 obtain ⟨v,hv⟩: ∃ v,v=(m.f x).getLastD 0:=⟨_,rfl⟩
 have hv1:1<=v:=by rw [hv];exact pos x _ (getLastD_mem h5)
 rw [<-hv]
 have hk:m.ld[i.toNat]?=some 0:=by
  rw [List.getElem?_eq_getElem (by omega)]
  rw [List.getD_eq_getElem?_getD,List.getElem?_eq_getElem (by omega)] at h4
  exact congrArg some h4
 rw [List.perm_iff_count]
 intro b
 unfold SM.raw
 have e1:(m.told c).set q ⟨x,(m.f x).dropLast⟩=_:=told_set ok.may hq (m.f x).dropLast (m.ld.set i.toNat v)
 have c1:=cnt_cells (t:=⟨x,(m.f x).dropLast⟩) hq b
 have c2:=cnt_loads (v:=v) hk b
 have e2:(m.f x).count b=(m.f x).dropLast.count b+[v].count b:=by
  conv=>lhs;rw [<-snoc_last h5]
  rw [List.count_append,hv]
 have e3:[v].filter nz=[v]:=by simp [nz];omega
 have e4:[(0:Int)].filter nz=[]:=by simp [nz]
 rw [e3,e4] at c2
 simp only [List.count_nil] at c2
 simp only at c1
 simp only [List.count_append]
 rw [<-e1]
 show ((m.told c).set q ⟨x,(m.f x).dropLast⟩|>.flatMap (·.bins)).count b+((m.ld.set i.toNat v).filter nz).count b=_+(m.ld.filter nz).count b
 omega
theorem drop_zero {c:ConfP} {m:SM} {i:Int} {x:Cell} (h:m.dropE c i x=0):openB c x=true/\0<=i/\i<m.ld.length/\m.ld.getD i.toNat 0≠0:=by
 unfold SM.dropE dropE at h
 by_cases hc:openB c x=true/\0<=i/\i<m.ld.length
 · rw [if_pos hc] at h
   split at h
   · omega
   · rename_i h1
     exact ⟨hc.1,hc.2.1,hc.2.2,h1⟩
 · rw [if_neg hc] at h;omega
theorem raw_drop {c:ConfP} {m:SM} {i:Int} {x:Cell} (ok:SMOk c m) (h:m.dropE c i x=0):((m.drop c i x).raw c).Perm (m.raw c):=by
 obtain ⟨h1,h2,h3,h4⟩:=drop_zero h
 rw [drop_at h]
 obtain ⟨⟨q,hq⟩⟩:Nonempty (∃ q:Nat,(m.told c)[q]?=some ⟨x,m.f x⟩):=⟨List.mem_iff_getElem?.1 (told_has ok.may h1)⟩
 obtain ⟨v,hv⟩: ∃ v,v=m.ld.getD i.toNat 0:=⟨_,rfl⟩
 rw [<-hv] at h4 ⊢
 have hk:m.ld[i.toNat]?=some v:=by
  rw [List.getElem?_eq_getElem (by omega),hv,List.getD_eq_getElem?_getD,List.getElem?_eq_getElem (by omega)]
  rfl
 rw [List.perm_iff_count]
 intro b
 unfold SM.raw
 have e1:(m.told c).set q ⟨x,m.f x++[v]⟩=_:=told_set ok.may hq (m.f x++[v]) (m.ld.set i.toNat 0)
 have c1:=cnt_cells (t:=⟨x,m.f x++[v]⟩) hq b
 have c2:=cnt_loads (v:=0) hk b
 have e3:[v].filter nz=[v]:=by simp [nz];omega
 have e4:[(0:Int)].filter nz=[]:=by simp [nz]
 rw [e3,e4] at c2
 simp only [List.count_nil] at c2
 simp only [List.count_append] at c1
 simp only [List.count_append]
 rw [<-e1]
 show ((m.told c).set q ⟨x,m.f x++[v]⟩|>.flatMap (·.bins)).count b+((m.ld.set i.toNat 0).filter nz).count b=_+(m.ld.filter nz).count b
 omega
theorem sortI_perm {l l':List Int} (h:l.Perm l'):sortI l=sortI l':=by
 have hp: ∀ a:List Int,(sortI a).Pairwise fun x y=>x<=y:=fun a=>
  (List.pairwise_mergeSort (le:=fun x y=>decide (x<=y)) (fun x y z h1 h2=>by
    have:=of_decide_eq_true h1
    have:=of_decide_eq_true h2
    exact decide_eq_true (by omega)) (fun x y=>by
    rcases Int.le_total x y with h|h
    · simp [h]
    · simp [h]) a).imp fun h=>of_decide_eq_true h
 exact List.Perm.eq_of_pairwise (le:=fun x y=>x<=y) (fun x y _ _ h1 h2=>by omega) (hp l) (hp l') (((List.mergeSort_perm l _).trans h).trans (List.mergeSort_perm l' _).symm)
theorem pos_lift {c:ConfP} {m:SM} {i:Int} {x:Cell} (pos: ∀ y b,b∈m.f y->1<=b): ∀ y b,b∈(m.lift c i x).f y->1<=b:=by
 intro y b hb
 unfold SM.lift at hb
 split at hb
 · change b∈putF _ _ _ y at hb
   unfold putF at hb
   split at hb
   · exact pos x b (List.dropLast_subset _ hb)
   · exact pos y b hb
 · exact pos y b hb
structure KeptInv (c:ConfP) (m:SM):Prop where
 ok:SMOk c m
 pos: ∀ y b,b∈m.f y->1<=b
 lpos: ∀ b∈m.ld,0<=b
 bins:m.bins c=(SM.start c).bins c
theorem kept_start {c:ConfP} (hm:MayP c):KeptInv c (SM.start c):=by
 refine ⟨start_ok hm,fun y b hb=>(start_bin hm hb).1,fun b hb=>?_,rfl⟩
 change b∈List.replicate c.robots.length (0:Int) at hb
 rw [List.eq_of_mem_replicate hb]
 omega
theorem mem_set' {l:List Int} {k:Nat} {v b:Int} (h:b∈l.set k v):b=v\/b∈l:=by
 rcases List.mem_or_eq_of_mem_set h with h|h
 · exact .inr h
 · exact .inl h
theorem kept_lift {c:ConfP} {m:SM} (h:KeptInv c m) (i:Int) (x:Cell):KeptInv c (m.lift c i x)/\(m.liftE c i x=0->m.liftV c i x≠0/\(m.lift c i x).height c x=m.height c x - 1/\(m.lift c i x).load i=m.liftV c i x):=by
 by_cases he:m.liftE c i x=0
 · obtain ⟨h1,h2,h3,h4,h5⟩:=lift_zero he
   have hv:m.liftV c i x=(m.f x).getLastD 0:=by unfold SM.liftV;rw [if_pos he]
   have hv1:1<=(m.f x).getLastD 0:=h.pos x _ (getLastD_mem h5)
   refine ⟨⟨lift_ok h.ok,pos_lift h.pos,fun b hb=>?_,?_⟩,fun _=>⟨by rw [hv];omega,?_,?_⟩⟩
   · rw [lift_at he] at hb
     rcases mem_set' hb with hb|hb
     · rw [hb];omega
     · exact h.lpos b hb
   · rw [<-h.bins]
     exact sortI_perm (raw_lift h.ok h.pos he)
   · rw [height_open h1,height_open h1,lift_at he]
     show ((putF _ x _ x).length:Int)=_
     unfold putF
     rw [if_pos rfl,List.length_dropLast]
     have:=List.length_pos_iff.2 h5
     omega
   · rw [hv,lift_at he]
     unfold SM.load
     simp only [List.length_set]
     rw [if_pos ⟨h2,h3⟩,List.getD_eq_getElem?_getD,List.getElem?_set,if_pos rfl,if_pos (by omega)]
     rfl
 · rw [(lift_not he).1]
   exact ⟨h,fun h0=>absurd h0 he⟩
theorem kept_drop {c:ConfP} {m:SM} (h:KeptInv c m) (i:Int) (x:Cell):KeptInv c (m.drop c i x)/\(m.dropE c i x=0->(m.drop c i x).top c x=m.load i/\m.load i≠0/\(m.drop c i x).load i=0):=by
 by_cases he:m.dropE c i x=0
 · obtain ⟨h1,h2,h3,h4⟩:=drop_zero he
   have hl:m.load i=m.ld.getD i.toNat 0:=by unfold SM.load;rw [if_pos ⟨h2,h3⟩]
   have hmem:m.ld.getD i.toNat 0∈m.ld:=by
    rw [List.getD_eq_getElem?_getD,List.getElem?_eq_getElem (by omega)]
    exact List.getElem_mem _
   have h0:=h.lpos _ hmem
   refine ⟨⟨drop_ok h.ok,fun y b hb=>?_,fun b hb=>?_,?_⟩,fun _=>⟨?_,by rw [hl];exact h4,?_⟩⟩
   · rw [drop_at he] at hb
     change b∈putF _ x _ y at hb
     unfold putF at hb
     split at hb
     · rcases List.mem_append.1 hb with hb|hb
       · exact h.pos x b hb
       · rw [List.mem_singleton] at hb
         omega
     · exact h.pos y b hb
   · rw [drop_at he] at hb
     rcases mem_set' hb with hb|hb
     · omega
     · exact h.lpos b hb
   · rw [<-h.bins]
     exact sortI_perm (raw_drop h.ok he)
   · rw [hl,drop_at he]
     unfold SM.top
     rw [if_pos h1]
     show (putF _ x _ x).getLastD 0=_
     unfold putF
     rw [if_pos rfl,List.getLastD_concat]
   · rw [drop_at he]
     unfold SM.load
     simp only [List.length_set]
     rw [if_pos ⟨h2,h3⟩,List.getD_eq_getElem?_getD,List.getElem?_set,if_pos rfl,if_pos (by omega)]
     rfl
 · rw [drop_not he]
   exact ⟨h,fun h0=>absurd h0 he⟩
end Go.Proofs.YtngeeilkpnihmaaGreatDoor
namespace Go.Proofs.YtngeeilkpnihmaaGreatDoor
open Go Go.Sk Go.RowKit
set_option maxRecDepth 100000
structure InsP (l:List Int) (i k:Nat):Prop where
 a: ∀ x y,x<y->y<=i->x≠k->y≠k->l.getD x 0<=l.getD y 0
 b: ∀ y,k<y->y<=i->l.getD k 0<=l.getD y 0
def SortedTo (l:List Int) (i:Nat):Prop:= ∀ x y,x<y->y<i->l.getD x 0<=l.getD y 0
theorem getD_set {l:List Int} {i:Nat} {v:Int} (hi:i<l.length) (j:Nat):(l.set i v).getD j 0=if i=j then v else l.getD j 0:=by
 rw [List.getD_eq_getElem?_getD,List.getElem?_set]
 split
 · rename_i h
   subst h
   rfl
 · rw [List.getD_eq_getElem?_getD]
theorem ins_start {l:List Int} {i:Nat} (h:SortedTo l i):InsP l i i:=⟨fun x y h1 h2 _ h4=>h x y h1 (by omega),fun y h1 h2=>by omega⟩
theorem ins_stop {l:List Int} {i k:Nat} (h:InsP l i k) (hki:k<=i) (he:k=0\/l.getD (k - 1) 0<=l.getD k 0):SortedTo l (i+1):=by
 intro x y hxy hy
 by_cases hx:x=k
 · subst hx;exact h.b y hxy (by omega)
 · by_cases hyk:y=k
   · subst hyk
     rcases he with he|he
     · omega
     · by_cases hx1:x=y - 1
       · rw [hx1];exact he
       · exact Int.le_trans (h.a x (y - 1) (by omega) (by omega) hx (by omega)) he
   · exact h.a x y hxy (by omega) hx hyk
theorem ins_swap {l:List Int} {i k:Nat} (h:InsP l i (k+1)) (hki:k+1<=i) (hil:i<l.length) (he:l.getD (k+1) 0<l.getD k 0):
 InsP ((l.set (k+1) (l.getD k 0)).set k (l.getD (k+1) 0)) i k:=by
 have g: ∀ j,((l.set (k+1) (l.getD k 0)).set k (l.getD (k+1) 0)).getD j 0=if k=j then l.getD (k+1) 0 else if k+1=j then l.getD k 0 else l.getD j 0:=fun j=>by
  rw [getD_set (by rw [List.length_set];omega),getD_set (by omega)]
 refine ⟨fun x y h1 h2 h3 h4=>?_,fun y h1 h2=>?_⟩
 · have ex:=g x
   have ey:=g y
   rw [if_neg (fun e=>h3 e.symm)] at ex
   rw [if_neg (fun e=>h4 e.symm)] at ey
   rw [ex,ey]
   by_cases hx:k+1=x
   · rw [if_pos hx,if_neg (by omega)]
     exact h.a k y (by omega) h2 (by omega) (by omega)
   · rw [if_neg hx]
     by_cases hy:k+1=y
     · rw [if_pos hy]
       exact h.a x k (by omega) (by omega) (fun e=>hx e.symm) (by omega)
     · rw [if_neg hy]
       exact h.a x y h1 h2 (fun e=>hx e.symm) (fun e=>hy e.symm)
 · have ex:=g k
   have ey:=g y
   rw [if_pos rfl] at ex
   rw [if_neg (by omega)] at ey
   rw [ex,ey]
   by_cases hy:k+1=y
   · rw [if_pos hy];omega
   · rw [if_neg hy]
     exact h.b y (by omega) h2
theorem swap_perm {l:List Int} {i j:Nat} (hi:i<l.length) (hj:j<l.length):((l.set i (l.getD j 0)).set j (l.getD i 0)).Perm l:=by
 have h:=List.set_set_perm hi hj
 have e1:l.getD j 0=l[j]:=by rw [List.getD_eq_getElem?_getD,List.getElem?_eq_getElem hj];rfl
 have e2:l.getD i 0=l[i]:=by rw [List.getD_eq_getElem?_getD,List.getElem?_eq_getElem hi];rfl
 rw [e1,e2]
 exact h
theorem sorted_eq {l a:List Int} (hp:l.Perm a) (hs:SortedTo l l.length):l=sortI a:=by
 refine List.Perm.eq_of_pairwise (le:=fun x y=>x<=y) (fun x y _ _ h1 h2=>by omega) ?_ ?_ (hp.trans (List.mergeSort_perm a _).symm)
 · rw [List.pairwise_iff_getElem]
   intro i j hi hj hij
   have:=hs i j hij hj
   rw [List.getD_eq_getElem?_getD,List.getD_eq_getElem?_getD,List.getElem?_eq_getElem hi,List.getElem?_eq_getElem hj] at this
   exact this
 · refine (List.pairwise_mergeSort (le:=fun x y=>decide (x<=y)) (fun x y z h1 h2=>?_) (fun x y=>?_) a).imp fun h=>of_decide_eq_true h
   · have:=of_decide_eq_true h1
     have:=of_decide_eq_true h2
     exact decide_eq_true (by omega)
   · rcases Int.le_total x y with h|h
     · simp [h]
     · simp [h]
set_option maxHeartbeats 8000000 in
theorem rf_bins {c:ConfV} {p:Nat} {m:SM} {w:World} (h:Has w (rREF c p m)):Calls Tryz.prog 23 #[.pointer (some ⟨p,0,none⟩)] w fun e w'=>
 ∃ ad n cap,e=.returned (.slice ad n cap)/\Turn (rOw 3 elInt (.slice ad n cap) (m.bins c.p)) w w' none':=by
 obtain ⟨v,rfl,hv,hg⟩:=Has.ref h
 have hK:Know w w none' [] (rRf c v):=Know.start (L:=rRf c v) w hg
 have hlen:=hv.len
 have hall:(v.cells.l.map fun s=>s.bins.l).flatten=(m.told c.p).flatMap (·.bins):=by
  rw [<-hv.cells,List.flatMap_def,List.map_map]
  rfl
 have hrsh: ∀ r∈v.cells.l,r.bins.l.length<=1024:=fun r hr=>by
  have hr2:r.p∈m.told c.p:=by rw [<-hv.cells];exact List.mem_map_of_mem hr
  have:=(told_open _ hr2).2
  have e:r.bins.l=m.f r.p.at_:=this
  rw [e];exact hv.ok.short _
 have HALL:=Lib.hid hall
 have HSH:=Lib.hid hrsh
 have HLD:=Lib.hid hv.loads
 have hl8:v.loads.l.length<=8:=by rw [hv.loads];exact hv.ok.n8
 have HRAW:=Lib.hid (raw_len hv.ok)
 clear h hall hrsh hg hv
 simp only [rRf] at hK
 replace hK:=hK.nil 3 elInt
 go_enter Tryz.func23,Tryz.ntmps23
 go_wp2_with (first
  |go_big_skip
  |((with_reducible refine wl ?_);refine ldQ ?_)
  |(with_reducible refine en ?_))
 go_loopg [4,3] v.cells.l.length (fun k i v3 wr=> ∃ (j:Nat) (acc:List Int) (ad:Option Addr) (N cap:Nat),i=.int .i64 j/\k=v.cells.l.length - j/\j<=v.cells.l.length/\v3=.slice ad N cap/\Hid (acc=((v.cells.l.take j).map fun s=>s.bins.l).flatten)/\acc.length<=j*1024/\
  Know w wr none' [rOw 3 elInt (.slice ad N cap) acc] [rMany (v.cells.l.map rdRes),rBlk v.p (rfCells c v) 102,rOw 85 elStack v.cells.val v.cells.l,rOw 3 elInt v.loads.val v.loads.l])
 case atStart=>exact ⟨0,[],none,0,0,rfl,by omega,Nat.zero_le _,rfl,rfl,by simp,hK⟩
 case round=>
  obtain ⟨j,acc,ad,N,cap,rfl,rfl,hj,rfl,hacc,hal,hK⟩:=hrel
  by_cases hlt:j<v.cells.l.length
  · obtain ⟨u,hr⟩: ∃ u,v.cells.l[j]?=some u:=⟨_,List.getElem?_eq_getElem hlt⟩
    have HR:=Lib.hid hr
    have hrd:=(rMany_has (hK.lent (r:=rMany (v.cells.l.map rdRes))) (rdRes u) (List.mem_map_of_mem (List.mem_of_getElem? hr))).rd
    have hsh:=HSH.out u (List.mem_of_getElem? hr)
    have hj1:j*1024<=255*1024:=Nat.mul_le_mul_right _ (by omega)
    have HT:=Lib.hid (show acc++u.bins.l=((v.cells.l.take (j+1)).map fun s=>s.bins.l).flatten by rw [List.take_add_one,hr,hacc.out];simp)
    clear hr
    go_wp2_with (first
     |((with_reducible refine wt 24 ?_)
       (refine wl_ixK hK rfl rfl rfl rfl stackTy.und stackTy.size (h:=?_);intro b24 k24 hat24))
     |((with_reducible refine wt 27 ?_)
       (refine wl_appK (xs:=acc) (ys:=u.bins.l) hK intTy rfl rfl rfl rfl hrd (by unfold maxLen;omega) (by omega) (h:=?_);clear hK;intro ad2 N2 cap2 w27 hN2 hK;have HN2:=Lib.hid hN2;clear hN2;simp only [z0,z1] at hK))
     |go_big_skip
     |((with_reducible refine wl ?_);refine ldQ ?_)
     |(with_reducible refine en ?_))
    go_roundg (v.cells.l.length - (j+1))
    case measure=>omega
    case rel=>exact ⟨j+1,acc++u.bins.l,ad2,N2,cap2,by go_num,rfl,by omega,rfl,HT,by rw [List.length_append,Nat.succ_mul];omega,hK⟩
  · obtain rfl:j=v.cells.l.length:=by omega
    have hacc2:Hid (acc=(m.told c.p).flatMap (·.bins)):=by
     show _=_
     rw [hacc.out,<-HALL.out,List.take_length]
    have hb1:acc.length<=262144:=by
     have:v.cells.l.length*1024<=256*1024:=Nat.mul_le_mul_right _ hlen
     omega
    clear hacc hal hlt
    go_wp2_with (first
     |go_big_skip
     |((with_reducible refine wl ?_);refine ldQ ?_)
     |(with_reducible refine en ?_))
    go_loopg [5,3] v.loads.l.length (fun k i v3 wr=> ∃ (j:Nat) (ac:List Int) (ad:Option Addr) (N cap:Nat),i=.int .i64 j/\k=v.loads.l.length - j/\j<=v.loads.l.length/\v3=.slice ad N cap/\Hid (ac=acc++(v.loads.l.take j).filter fun b=>b !=0)/\ac.length<=acc.length+j/\
     Know w wr none' [rOw 3 elInt (.slice ad N cap) ac] [rMany (v.cells.l.map rdRes),rBlk v.p (rfCells c v) 102,rOw 85 elStack v.cells.val v.cells.l,rOw 3 elInt v.loads.val v.loads.l])
    case atStart=>exact ⟨0,acc,ad,N,cap,rfl,by omega,Nat.zero_le _,rfl,(by show _=_;simp),by omega,hK⟩
    case round=>
     clear hK ad N cap
     obtain ⟨j,ac,ad,N,cap,rfl,rfl,hj,rfl,hac,hal,hK⟩:=hrel
     by_cases hlt:j<v.loads.l.length
     · obtain ⟨z,hv⟩: ∃ z,v.loads.l[j]?=some z:=⟨_,List.getElem?_eq_getElem hlt⟩
       have HV:=Lib.hid hv
       by_cases hv0:z=0
       · have HT:=Lib.hid (show ac=acc++(v.loads.l.take (j+1)).filter (fun b=>b !=0) by rw [hac.out,List.take_add_one,hv,List.filter_append];simp [hv0])
         subst hv0
         clear hv
         go_wp2_with (first
          |((with_reducible refine wt 42 ?_);(refine wl_ixK (xs:=v.loads.l) (u:=(0:Int)) hK rfl rfl rfl rfl intTy.und intTy.size (hu:=HV) (h:=?_);intro b42 k42 hat42))
          |go_big_skip
          |((with_reducible refine wl ?_);refine ldQ ?_)
          |(with_reducible refine en ?_))
         go_roundg (v.loads.l.length - (j+1))
         case measure=>omega
         case rel=>exact ⟨j+1,ac,ad,N,cap,by go_num,rfl,by omega,rfl,HT,by omega,hK⟩
       · have HT:=Lib.hid (show ac++[z]=acc++(v.loads.l.take (j+1)).filter (fun b=>b !=0) by rw [hac.out,List.take_add_one,hv,List.filter_append];simp [hv0])
         have e1:(z !=0)=true:=bne_iff_ne.2 hv0
         have e2:decide (z=0)=false:=decide_eq_false hv0
         clear hv hv0
         go_wp2_with (first
          |((with_reducible refine wt 42 ?_);(refine wl_ixK (xs:=v.loads.l) (u:=z) hK rfl rfl rfl rfl intTy.und intTy.size (hu:=HV) (h:=?_);intro b42 k42 hat42))
          |((with_reducible refine wt 51 ?_);(refine wl_ixK (xs:=v.loads.l) (u:=z) hK rfl rfl rfl rfl intTy.und intTy.size (hu:=HV) (h:=?_);intro b51 k51 hat51))
          |((with_reducible refine wt 53 ?_);(refine wl_buildK 3 elInt [z] hK rfl rfl (fun W=>by kernel_rfl) rfl (by decide) ?_;clear hK;intro adb w53 hK))
          |((with_reducible refine wt 54 ?_)
            (refine wl_appK (xs:=ac) (ys:=[z]) hK intTy rfl rfl rfl rfl hK.rd (by simp;unfold maxLen;omega) (by simp;omega) (h:=?_);clear hK;intro ad2 N2 cap2 w54 hN2 hK;have HN2:=Lib.hid hN2;clear hN2;simp only [z0,z1] at hK))
          |go_big_skip
          |((with_reducible refine wl ?_);refine ldQ ?_)
          |(with_reducible refine en ?_))
         go_roundg (v.loads.l.length - (j+1))
         case measure=>omega
         case rel=>exact ⟨j+1,ac++[z],ad2,N2,cap2,by go_num,rfl,by omega,rfl,HT,by rw [List.length_append];simp only [List.length_cons,List.length_nil];omega,hK.sub (.cons _ (List.Sublist.refl _))⟩
     · obtain rfl:j=v.loads.l.length:=by omega
       have hraw2:=Lib.hid (show ac=m.raw c.p by
        rw [hac.out,hacc2.out,List.take_length,HLD.out]
        rfl)
       have hsz:ac.length<=270008:=by omega
       have hN:N=ac.length:=hK.rd.n
       have hNac:=Lib.hid hN
       have hNsz:N<=270008:=by omega
       clear hac hal hlt hN
       go_wp2_with (first
        |go_big_skip
        |((with_reducible refine wl ?_);refine ldQ ?_)
        |(with_reducible refine en ?_))
       go_loopg [6,7,8] N (fun k i _ _ wr=> ∃ (j:Nat) (l:List Int),i=.int .i64 j/\k=N+1 - j/\1<=j/\j<=N+1/\Hid (l.Perm ac)/\Hid (SortedTo l j)/\
        Know w wr none' [rOw 3 elInt (.slice ad N cap) l] [rMany (v.cells.l.map rdRes),rBlk v.p (rfCells c v) 102,rOw 85 elStack v.cells.val v.cells.l,rOw 3 elInt v.loads.val v.loads.l])
       case atStart=>exact ⟨1,ac,rfl,by omega,by omega,by omega,List.Perm.refl _,fun x y h1 h2=>by omega,hK⟩
       case round=>
        clear hK
        obtain ⟨j,l,rfl,rfl,hj1,hj2,hp,hs,hK⟩:=hrel
        have hln:l.length=N:=by rw [hp.out.length_eq,<-hNac.out]
        by_cases hlt:j<N
        · have HLN:=Lib.hid hln
          have hj270:j<=270008:=by omega
          clear hln
          go_wp2_with (first
           |go_big_skip
           |((with_reducible refine wl ?_);refine ldQ ?_)
           |(with_reducible refine en ?_))
          go_loopg [7,8] (j+1) (fun k i _ wr=> ∃ (q:Nat) (l:List Int),i=.int .i64 q/\k=q+1/\q<=j/\Hid (l.Perm ac)/\Hid (InsP l j q)/\
           Know w wr none' [rOw 3 elInt (.slice ad N cap) l] [rMany (v.cells.l.map rdRes),rBlk v.p (rfCells c v) 102,rOw 85 elStack v.cells.val v.cells.l,rOw 3 elInt v.loads.val v.loads.l])
          case atStart=>exact ⟨j,l,rfl,rfl,Nat.le_refl _,hp,ins_start hs.out,hK⟩
          case round=>
           clear hK hp hs HLN l
           obtain ⟨q,l,rfl,rfl,hq,hp,hs,hK⟩:=hrel
           have hln:l.length=N:=by rw [hp.out.length_eq,<-hNac.out]
           have HLN:=Lib.hid hln
           rcases q with _|q
           · clear hln
             have c0:decide ((0:Int)<((0:Nat):Int))=false:=by decide
             go_wp2_with (first
              |((with_reducible refine tx 15 hK ?_);clear hK;intro w' hK)
              |go_big_skip
              |go_big_skip
              |((with_reducible refine wl ?_);refine ldQ ?_)
              |(with_reducible refine en ?_))
             go_roundg (N+1 - (j+1))
             case measure=>omega
             case rel=>exact ⟨j+1,l,by go_num,rfl,by omega,by omega,hp,ins_stop hs.out (Nat.zero_le _) (.inl rfl),hK⟩
           · obtain ⟨x,hx⟩: ∃ x,l[q+1]?=some x:=⟨_,List.getElem?_eq_getElem (by omega)⟩
             obtain ⟨y,hy⟩: ∃ y,l[q]?=some y:=⟨_,List.getElem?_eq_getElem (by omega)⟩
             have gx:l.getD (q+1) 0=x:=by rw [List.getD_eq_getElem?_getD,hx];rfl
             have gy:l.getD q 0=y:=by rw [List.getD_eq_getElem?_getD,hy];rfl
             obtain ⟨q1,hq1⟩: ∃ q1,q1=q+1:=⟨_,rfl⟩
             have i1:(q1:Int) - 1=(q:Int):=by omega
             have HX:=Lib.hid (show l[q1]?=some x by rw [hq1];exact hx)
             have HY:=Lib.hid hy
             have c0:decide ((0:Int)<(q1:Int))=true:=decide_eq_true (by omega)
             have c0':decide (0<q1)=true:=decide_eq_true (by omega)
             have hq1N:q1<N:=by omega
             have hqN:q<N:=by omega
             have hq1b:q1<=270008:=by omega
             rw [<-hq1]
             have HQ1:=Lib.hid hq1
             by_cases hxy:x<y
             · have c1:decide (x<y)=true:=decide_eq_true hxy
               have HSW:=Lib.hid (ins_swap hs.out (by omega) (by omega) (by rw [gx,gy];exact hxy))
               have HPM:=Lib.hid ((swap_perm (l:=l) (i:=q+1) (j:=q) (by omega) (by omega)).trans hp.out)
               rw [gx,gy,<-hq1] at HSW HPM
               have HY2:=Lib.hid (show (l.set q1 y)[q]?=some y by rw [List.getElem?_set,if_neg (by omega)];exact hy)
               have hlq1:q1<l.length:=by omega
               have hlq:q<(l.set q1 y).length:=by rw [List.length_set];omega
               clear hln hx hy gx gy hxy hq1
               go_wp2_with (first
                |((with_reducible refine wt 67 ?_);(refine wl_ixK (xs:=l) (u:=x) hK rfl rfl rfl rfl intTy.und intTy.size (hu:=HX) (h:=?_);intro b67 k67 hat67))
                |((with_reducible refine wt 72 ?_);(refine wl_ixK (xs:=l) (u:=y) hK rfl rfl rfl rfl intTy.und intTy.size (hu:=HY) (h:=?_);intro b72 k72 hat72))
                |((with_reducible refine wt 80 ?_);(refine wl_ixK (xs:=l) (u:=x) hK rfl rfl rfl rfl intTy.und intTy.size (hu:=HX) (h:=?_);intro b80 k80 hat80))
                |((with_reducible refine wt 87 ?_);(refine wl_ixK (xs:=l) (u:=y) hK rfl rfl rfl rfl intTy.und intTy.size (hu:=HY) (h:=?_);intro b87 k87 hat87))
                |((with_reducible refine wt 89 ?_);(refine wl_ixO (xs:=l) (u:=x) hK rfl rfl rfl rfl intTy.und intTy.size (hu:=HX) (h:=?_);intro b89 k89 hat89 hsp89))
                |((with_reducible refine wt 94 ?_);(refine wl_ixO (xs:=l.set q1 y) (u:=y) hK rfl rfl rfl rfl intTy.und intTy.size (hu:=HY2) (h:=?_);intro b94 k94 hat94 hsp94))
                |((with_reducible refine wl_at (o:=⟨none,.store 3 (.tmp 89) _,_,_,_,_⟩) ?_);(refine wl_storeE y hK rfl rfl rfl rfl (sizT (by decide)) hsp89 (hlt:=hlq1) (hv:=.inr ⟨rfl,rfl⟩) (h:=?_);clear hK;intro w' hK;simp only [z0,z1] at hK))
                |((with_reducible refine wl_at (o:=⟨none,.store 3 (.tmp 94) _,_,_,_,_⟩) ?_);(refine wl_storeE x hK rfl rfl rfl rfl (sizT (by decide)) hsp94 (hlt:=hlq) (hv:=.inr ⟨rfl,rfl⟩) (h:=?_);clear hK;intro w' hK;simp only [z0,z1] at hK))
                |((with_reducible refine tx 15 hK ?_);clear hK;intro w' hK)
                |go_big_skip
                |go_big_skip
                |((with_reducible refine wl ?_);refine ldQ ?_)
                |(with_reducible refine en ?_))
               go_roundg (q+1)
               case measure=>have:=HQ1.out;omega
               case rel=>exact ⟨q,(l.set q1 y).set q x,by go_num,rfl,by omega,HPM,HSW,hK⟩
             · have c1:decide (x<y)=false:=decide_eq_false hxy
               have HST:=Lib.hid (ins_stop hs.out hq (.inr (by rw [Nat.add_sub_cancel,gx,gy];omega)))
               clear hln hx hy gx gy hxy hq1
               go_wp2_with (first
                |((with_reducible refine wt 67 ?_);(refine wl_ixK (xs:=l) (u:=x) hK rfl rfl rfl rfl intTy.und intTy.size (hu:=HX) (h:=?_);intro b67 k67 hat67))
                |((with_reducible refine wt 72 ?_);(refine wl_ixK (xs:=l) (u:=y) hK rfl rfl rfl rfl intTy.und intTy.size (hu:=HY) (h:=?_);intro b72 k72 hat72))
                |((with_reducible refine tx 15 hK ?_);clear hK;intro w' hK)
                |go_big_skip
                |go_big_skip
                |((with_reducible refine wl ?_);refine ldQ ?_)
                |(with_reducible refine en ?_))
               go_roundg (N+1 - (j+1))
               case measure=>omega
               case rel=>exact ⟨j+1,l,by go_num,rfl,by omega,by omega,hp,HST,hK⟩
        · have HSO:=Lib.hid (show l=m.bins c.p by
           unfold SM.bins
           rw [<-hraw2.out]
           exact sorted_eq hp.out (fun x y h1 h2=>hs.out x y h1 (by omega)))
          clear hln
          go_wp2_with (first
           |go_big_skip
           |((with_reducible refine wl ?_);refine ldQ ?_)
           |(with_reducible refine en ?_))
          go_ret
          refine ⟨ad,N,cap,rfl,?_⟩
          rw [HSO.out] at hK
          exact hK.turn
end Go.Proofs.YtngeeilkpnihmaaGreatDoor
namespace Go.Proofs.YtngeeilkpnihmaaGreatDoor
open Go Go.Sk Go.RowKit
set_option maxRecDepth 100000
attribute [local irreducible] wpList Code.wp Calls
theorem kept_hoist {c:ConfP} {s:SM} {i:Nat} {r:RM} {k:Int} (h:KeptInv c s):KeptInv c (hoistW c s i r k).1:=by
 unfold hoistW
 repeat' split
 all_goals first|exact h|exact (kept_lift h _ _).1|exact (kept_drop h _ _).1
theorem kept_tickW {c:ConfP} {s:SM} {i:Nat} {r:RM} (h:KeptInv c s):KeptInv c (tickW c s i r).1:=by
 unfold tickW
 repeat' split
 all_goals first|exact h|exact kept_hoist h
theorem kept_ticks {c:ConfP} {m:WM} (h:KeptInv c m.s): ∀ j:Nat,KeptInv c (m.ticks c j).1.s
 |0=>h
 |j+1=>by
  have ih:=kept_ticks h j
  rw [WM.ticks]
  split
  · exact kept_tickW ih
  · exact ih
theorem kept_both {c:ConfP}: ∀ (k:Nat) (a d:WM),KeptInv c a.s->KeptInv c (bothT c k a d).1.s
 |0,_,_,h=>h
 |k+1,a,d,h=>by
  unfold bothT
  split
  · exact kept_both k _ _ (kept_ticks h _)
  · exact kept_ticks h _
theorem kept_do {c:ConfP} {a d:WM} {x:Op19} (h:KeptInv c a.s):KeptInv c (doM c a d x).1.s:=by
 have hh: ∀ t,KeptInv c (hearB c a d t).1.s:=fun t=>by
  show KeptInv c (a.hear c t).1.s
  rw [(hear_is a t).2.2.2]
  exact h
 unfold doM
 split
 · exact hh _
 · split
   · split
     · exact hh _
     · exact h
   · split
     · show KeptInv c (a.delay _ _).s
       unfold WM.delay
       split<;>exact h
     · split
       · split
         · exact hh _
         · exact h
       · exact kept_both _ _ _ h
theorem kept_play {c:ConfP} (hm:MayP c) (l:List Op19):KeptInv c (playM c l).1.s:=by
 unfold playM
 have: ∀ (l:List Op19) (p:WM×WM),KeptInv c p.1.s->KeptInv c (l.foldl (fun p x=>doM c p.1 p.2 x) p).1.s:=by
  intro l
  induction l with
  |nil=>exact fun p h=>h
  |cons x l ih=>exact fun p h=>ih _ (kept_do h)
 exact this _ _ (kept_start hm)
open Classical in
set_option maxHeartbeats 4000000 in
theorem wbins_calls {c:ConfV} {sv1:Value} {l1:List Op19} {w:World} (hc:Has w (rConf c)) (hst:Has w stepsR) (hu:Upto c) (hwf: ∀ p∈c.robots.l,PoseWf p) (h1:Rd w elOp19 sv1 l1) (hn1:l1.length<=1048576) (ho1: ∀ x∈l1,∀ u∈El.cells elOp19 x,okNum u):
 Calls Tryz.prog 6 #[.agg c.cells.toArray,sv1] w (Ret (.bool true) w):=by
 have hK:Know w w none' [] [rRd elOp19 sv1 l1,rConf c,stepsR]:=Know.start (L:=[rRd elOp19 sv1 l1,rConf c,stepsR]) w (by
  intro r hr
  simp only [List.mem_cons,List.not_mem_nil,or_false] at hr
  rcases hr with rfl|rfl|rfl
  · exact h1.has
  · exact hc
  · exact hst)
 obtain ⟨sa1,sc1,rfl⟩:=h1.vee
 clear hc hst h1
 obtain ⟨sm,hsm⟩: ∃ sm,decide (smallB c.p)=sm:=⟨_,rfl⟩
 have HS:=Lib.hid hsm
 have kAw:=Lib.hid (fun (W:World) (h:Has W stepsR)=>awake19 h)
 cases sm with
 |false=>
  clear hsm
  refine calls_al _ Tryz.func6 rfl Tryz.ntmps6 (Nat.le_of_ble_eq_true rfl) ?_
  simp only [parL,Nat.reduceAdd]
  repeat' (first
   |(go_at_call 8;(refine (hK.quiet (kn_small HS.out hu hK.lent)).mono ?_;clear hK;rintro e w' ⟨rfl,hK⟩))
   |(go_at_call 9;(refine (hK.quiet (kAw.out _ hK.lent)).mono ?_;clear hK;rintro e w' ⟨rfl,hK⟩))
   |(refine sl ?_)
   |((with_reducible refine wl_at ?_);first|refine al ?_|refine Held.out ?_)
   |(with_reducible refine Two.mk (fun h=>?_) (fun h=>?_)<;>go_prune)
   |(with_reducible refine en ?_)
   |(with_reducible refine ret_at ?_)
   |(with_reducible refine fun (w':World) (b:Nat) hK'=>?_;clear hK;have hK:=hK';clear hK')
   |(with_reducible refine fun (w':World) hK'=>?_;clear hK;have hK:=hK';clear hK')
   |(with_reducible refine fun (b k:Nat) hat=>?_))
  exact al_ret1 rfl Vis.bool ⟨rfl,hK.mod⟩
 |true=>
  have hm:MayP c.p:=(of_decide_eq_true hsm).2.2.2.2.2.2.2
  clear hsm
  have kP1:=Lib.hid (fun (W:World) (h1:Has W (rConf c)) (h2:Has W stepsR) (h3:Rd W elOp19 (.slice sa1 l1.length sc1) l1)=>play_calls hm hu hwf hn1 ho1 h1 h2 h3)
  have hb:=(kept_play hm l1).bins
  generalize (playM c.p l1).1=m1 at kP1 hb
  have kB:=Lib.hid (fun (W:World) (wp:Nat) (h:Has W (rWLD c.p wp m1))=>w_bins h)
  have kBd:=Lib.hid (fun (W:World) (wp:Nat) (h:Has W (rWLD c.p wp m1))=>bins_bd h)
  rw [hb] at kB kBd
  have kN:=Lib.hid (fun (W:World) (h:Has W (rConf c))=>rf_new h hu hm)
  have kR:=Lib.hid (fun (W:World) (p:Nat) (h:Has W (rREF c p (SM.start c.p)))=>rf_bins h)
  refine calls_al _ Tryz.func6 rfl Tryz.ntmps6 (Nat.le_of_ble_eq_true rfl) ?_
  simp only [parL,Nat.reduceAdd]
  repeat' (first
   |(go_at_call 8;(refine (hK.quiet (kn_small HS.out hu hK.lent)).mono ?_;clear hK;rintro e w' ⟨rfl,hK⟩))
   |(go_at_call 10;(refine (kP1.out _ hK.lent hK.lent hK.rd).mono ?_;rintro e w' ⟨wp1,rfl,hT⟩;replace hK:=hK.push1 hT;clear hT))
   |(go_at_call 22;(refine (kN.out _ hK.lent).mono ?_;rintro e w' ⟨p1,rfl,hT⟩;replace hK:=hK.push1 hT;clear hT))
   |(go_at_call 17;(refine (kB.out _ _ hK.own).mono ?_;rintro e w' ⟨adB,nB,cpB,rfl,hT⟩;replace hK:=hK.push1 hT;clear hT))
   |(go_at_call 23;(refine (kR.out _ _ hK.own).mono ?_;rintro e w' ⟨adC,nC,cpC,rfl,hT⟩;replace hK:=hK.push1 hT;clear hT))
   |(go_at_call 21;(refine (hK.quiet (same_intsW (l:=(SM.start c.p).bins c.p) (l':=(SM.start c.p).bins c.p) (decide_eq_true rfl) hK.rd hK.rd (kBd.out _ wp1 hK.own))).mono ?_;clear hK;rintro e w' ⟨rfl,hK⟩))
   |(go_at_call 9;(refine (hK.quiet (kAw.out _ hK.lent)).mono ?_;clear hK;rintro e w' ⟨rfl,hK⟩))
   |(refine sl ?_)
   |((with_reducible refine wl_at ?_);first|refine al ?_|refine Held.out ?_)
   |(with_reducible refine Two.mk (fun h=>?_) (fun h=>?_)<;>go_prune)
   |(with_reducible refine en ?_)
   |(with_reducible refine ret_at ?_)
   |(with_reducible refine fun (w':World) (b:Nat) hK'=>?_;clear hK;have hK:=hK';clear hK')
   |(with_reducible refine fun (w':World) hK'=>?_;clear hK;have hK:=hK';clear hK')
   |(with_reducible refine fun (b k:Nat) hat=>?_))
  all_goals exact al_ret1 rfl Vis.bool ⟨rfl,hK.mod⟩
end Go.Proofs.YtngeeilkpnihmaaGreatDoor
