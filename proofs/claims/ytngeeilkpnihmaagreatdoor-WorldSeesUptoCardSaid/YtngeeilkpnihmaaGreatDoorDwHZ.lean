/- Texts of mine that belong together: Dwl, SkCut, Dwm. -/
import Derived.Test.YtngeeilkpnihmaaGreatDoorDwEZ
import Derived.Test.YtngeeilkpnihmaaGreatDoorEngZ
import Derived.Test.YtngeeilkpnihmaaGreatDoorDwFZ
set_option linter.all false
namespace Go.Proofs.YtngeeilkpnihmaaGreatDoor
open Go Go.Sk Go.RowKit
set_option maxRecDepth 100000
abbrev Mv:=Go.Sk.Move
def stepU (u:List Mv) (x:Sight):List Mv:=if x.kind=1 then u.set x.robot.toNat x.move else if x.kind=2 then u.set x.robot.toNat mvZ else u
structure GoodM (m:Mv) (x:Sight):Prop where
 start:x.kind=1->m.kind=0
 bins:x.kind=4\/x.kind=5\/x.kind=8->m.kind=3\/m.kind=4
 fin:x.kind=2->m.kind≠0/\x.move.kind=m.kind/\x.move.src=m.src/\x.move.n<=m.n/\x.pose=x.move.dst
 halt:x.kind=3->m.kind=0
def u0:List Mv:=List.replicate 8 mvZ
def uAt (l:List Sight):List Mv:=l.foldl stepU u0
structure SeesOk (N:Nat) (now:Int) (l:List Sight):Prop where
 good: ∀ (i:Nat) (x:Sight),l[i]?=some x->(0<=x.robot/\x.robot<(N:Int))/\GoodM ((uAt (l.take i)).getD x.robot.toNat mvZ) x
 tick: ∀ (i:Nat) (x y:Sight),l[i]?=some x->l[i+1]?=some y->x.tick<=y.tick
 last: ∀ x∈l,x.tick<=now
theorem stepU_len (u:List Mv) (x:Sight):(stepU u x).length=u.length:=by
 unfold stepU
 repeat' split
 all_goals simp
theorem uAt_len (l:List Sight):(uAt l).length=8:=by
 unfold uAt
 have: ∀ (l:List Sight) (u:List Mv),(l.foldl stepU u).length=u.length:=by
  intro l
  induction l with
  |nil=>exact fun u=>rfl
  |cons x l ih=>exact fun u=>(ih _).trans (stepU_len u x)
 exact this l u0
theorem uAt_snoc (l:List Sight) (x:Sight):uAt (l++[x])=stepU (uAt l) x:=by
 unfold uAt
 rw [List.foldl_append]
 rfl
theorem SeesOk.more {N:Nat} {now now':Int} {l:List Sight} (h:SeesOk N now l) (hn:now<=now'):SeesOk N now' l:=
 ⟨h.good,h.tick,fun x hx=>by have:=h.last x hx;omega⟩
theorem SeesOk.snoc {N:Nat} {now:Int} {l:List Sight} {x:Sight} (h:SeesOk N now l) (hr:0<=x.robot/\x.robot<(N:Int)) (hg:GoodM ((uAt l).getD x.robot.toNat mvZ) x) (ht:x.tick=now):SeesOk N now (l++[x]):=by
 refine ⟨fun i y hy=>?_,fun i y z hy hz=>?_,fun y hy=>?_⟩
 · by_cases hi:i<l.length
   · rw [List.getElem?_append_left hi] at hy
     rw [List.take_append_of_le_length (by omega)]
     exact h.good i y hy
   · have hil:i<(l++[x]).length:=(List.getElem?_eq_some_iff.1 hy).1
     rw [List.length_append,List.length_singleton] at hil
     obtain rfl:i=l.length:=by omega
     rw [List.getElem?_append_right (Nat.le_refl _),Nat.sub_self] at hy
     obtain rfl:x=y:=by injection hy
     rw [List.take_append_of_le_length (Nat.le_refl _),List.take_length]
     exact ⟨hr,hg⟩
 · by_cases hi:i+1<l.length
   · rw [List.getElem?_append_left (by omega)] at hy hz
     exact h.tick i y z hy hz
   · have hil:i+1<(l++[x]).length:=(List.getElem?_eq_some_iff.1 hz).1
     rw [List.length_append,List.length_singleton] at hil
     rw [List.getElem?_append_left (by omega)] at hy
     rw [List.getElem?_append_right (by omega),show i+1 - l.length=0 by omega] at hz
     obtain rfl:x=z:=by injection hz
     rw [ht]
     exact h.last y (List.mem_of_getElem? hy)
 · rcases List.mem_append.1 hy with hy|hy
   · exact h.last y hy
   · rw [List.mem_singleton.1 hy,ht]
     omega
def stepV (v:Mv) (s:Seen):Mv:=if s.kind=1 then s.move else if s.kind=2 then mvZ else v
def goodVs (p:Pose):Mv->List Seen->Prop
 |_,[]=>True
 |v,s::xs=>GoodM v (s.at 0 0 p)/\goodVs p (stepV v s) xs
theorem goodM_at {v:Mv} {s:Seen} {p:Pose} {now:Int} {i:Nat} (h:GoodM v (s.at 0 0 p)):GoodM v (s.at now i p):=⟨h.start,h.bins,h.fin,h.halt⟩
theorem getD_set_u {u:List Mv} {i j:Nat} {v:Mv} (hi:i<u.length):(u.set i v).getD j mvZ=if i=j then v else u.getD j mvZ:=by
 rw [List.getD_eq_getElem?_getD,List.getElem?_set,List.getD_eq_getElem?_getD]
 by_cases h:i=j
 · rw [if_pos h,if_pos h,if_pos hi];rfl
 · rw [if_neg h,if_neg h]
theorem stepU_at {u:List Mv} {s:Seen} {now:Int} {i j:Nat} {p:Pose} (hi:i<u.length):(stepU u (s.at now i p)).getD j mvZ=if i=j then stepV (u.getD i mvZ) s else u.getD j mvZ:=by
 unfold stepU stepV
 show List.getD (if s.kind=1 then u.set (i:Int).toNat s.move else if s.kind=2 then u.set (i:Int).toNat mvZ else u) j mvZ=_
 rw [Int.toNat_natCast]
 split
 · exact getD_set_u hi
 · split
   · exact getD_set_u hi
   · split
     · rename_i h;rw [h]
     · rfl
theorem see_ok {N:Nat} {now:Int} {i:Nat} {p:Pose} (hi:i<N) (hN:N<=8): ∀ (xs:List Seen) (l:List Sight),SeesOk N now l->goodVs p ((uAt l).getD i mvZ) xs->
 SeesOk N now (l++xs.map fun x=>x.at now i p)/\(uAt (l++xs.map fun x=>x.at now i p)).getD i mvZ=xs.foldl stepV ((uAt l).getD i mvZ)/\ ∀ j,j≠i->(uAt (l++xs.map fun x=>x.at now i p)).getD j mvZ=(uAt l).getD j mvZ
 |[],l,h,_=>by
  rw [List.map_nil,List.append_nil]
  exact ⟨h,rfl,fun _ _=>rfl⟩
 |s::xs,l,h,⟨h1,h2⟩=>by
  have hl:i<(uAt l).length:=by rw [uAt_len];omega
  have hs:SeesOk N now (l++[s.at now i p]):=h.snoc ⟨by show (0:Int)<=(i:Int);omega,by show (i:Int)<N;omega⟩ (by
   show GoodM ((uAt l).getD (i:Int).toNat mvZ) _
   rw [Int.toNat_natCast]
   exact goodM_at h1) rfl
  have hu: ∀ j,(uAt (l++[s.at now i p])).getD j mvZ=if i=j then stepV ((uAt l).getD i mvZ) s else (uAt l).getD j mvZ:=fun j=>by rw [uAt_snoc,stepU_at hl]
  have hui:=hu i
  rw [if_pos rfl] at hui
  obtain ⟨k1,k2,k3⟩:=see_ok hi hN xs (l++[s.at now i p]) hs (by rw [hui];exact h2)
  rw [List.map_cons,show l++s.at now i p::xs.map (fun x=>x.at now i p)=(l++[s.at now i p])++xs.map (fun x=>x.at now i p) by simp]
  refine ⟨k1,?_,fun j hj=>?_⟩
  · rw [k2,hui];rfl
  · rw [k3 j hj,hu j,if_neg (fun e=>hj e.symm)]
def relV (v:Mv) (r:RM):Prop:=match r.under with
 |none=>v.kind=0
 |some g=>v.kind=g.move.kind/\g.move.kind≠0/\v.src=g.move.src/\g.move.n<=v.n
structure SInv (N:Nat) (m:WM):Prop where
 len:m.rs.length=N
 sees:SeesOk N m.now m.l
 rel: ∀ (j:Nat) r,m.rs[j]?=some r->relV ((uAt m.l).getD j mvZ) r
theorem relV_none {v:Mv} {r:RM} (h:relV v r) (hr:r.under=none):v.kind=0:=by
 unfold relV at h
 rw [hr] at h
 exact h
theorem SInv.set {N:Nat} (hN:N<=8) {m:WM} {i:Nat} {s':SM} {r r':RM} {p:Pose} {xs:List Seen} (h:SInv N m) (hr:m.rs[i]?=some r) (hg:goodVs p ((uAt m.l).getD i mvZ) xs) (hv:relV (xs.foldl stepV ((uAt m.l).getD i mvZ)) r'):
 SInv N (({m with s:=s',rs:=m.rs.set i r'}:WM).see i p xs):=by
 have hi:i<m.rs.length:=(List.getElem?_eq_some_iff.1 hr).1
 obtain ⟨k1,k2,k3⟩:=see_ok (now:=m.now) (p:=p) (by have:=h.len;omega) hN xs m.l h.sees hg
 refine ⟨by show (m.rs.set i r').length=N;rw [List.length_set];exact h.len,k1,fun j y hy=>?_⟩
 change (m.rs.set i r')[j]?=some y at hy
 show relV ((uAt (m.l++xs.map fun x=>x.at m.now i p)).getD j mvZ) y
 by_cases hj:j=i
 · subst hj
   rw [List.getElem?_set_self hi] at hy
   obtain rfl:r'=y:=by injection hy
   rw [k2]
   exact hv
 · rw [List.getElem?_set_ne (fun e=>hj e.symm)] at hy
   rw [k3 j hj]
   exact h.rel j y hy
theorem hear_rel {c:ConfP} {i:Int} {r:RM} {n:Int} {t:Tele} {v:Mv} (hk:(kinOf c).Ok) (hok:RMOk c r n) (h:relV v r):goodVs (r.hear c (kinOf c) i t).1.pose v (heardS (r.hear c (kinOf c) i t).2.2 (r.hear c (kinOf c) i t).1.now)/\relV ((heardS (r.hear c (kinOf c) i t).2.2 (r.hear c (kinOf c) i t).1.now).foldl stepV v) (r.hear c (kinOf c) i t).1:=by
 have h0: ∀ m p,goodVs p v (heardS 0 m)/\(heardS 0 m).foldl stepV v=v:=fun m p=>⟨trivial,rfl⟩
 unfold RM.hear
 split
 · exact ⟨(h0 _ _).1,h⟩
 · split
   · unfold RM.goes
     split
     · exact ⟨⟨⟨(fun e=>by cases e),(fun e=>by rcases e with e|e|e<;>cases e),(fun e=>by cases e),(fun e=>by cases e)⟩,trivial⟩,h⟩
     · split
       · exact ⟨(h0 _ _).1,h⟩
       · rename_i hu
         have hun:r.under=none:=by cases hx:r.under with|none=>rfl|some g=>exact absurd (.inr (by rw [hx];rfl)) hu
         split
         · exact ⟨(h0 _ _).1,h⟩
         · split
           · rename_i hx
             have hk0:t.move.kind≠0:=fun e=>by
              have:=hx.2.2.1
              unfold legalP at this
              rw [if_neg (by omega),if_neg (by omega),if_neg (by omega)] at this
              simp at this
             exact ⟨⟨⟨fun _=>relV_none h hun,(fun e=>by rcases e with e|e|e<;>cases e),(fun e=>by cases e),(fun e=>by cases e)⟩,trivial⟩,rfl,hk0,rfl,Int.le_refl _⟩
           · exact ⟨(h0 _ _).1,h⟩
   · split
     · unfold RM.stops
       split
       · exact ⟨(h0 _ _).1,h⟩
       · split
         · split
           · rename_i g hg
             refine ⟨(h0 _ _).1,?_⟩
             show relV v _
             unfold relV at h ⊢
             rw [hg] at h
             simp only at h ⊢
             unfold Going.cuts
             split
             · rename_i hc
               have hn1:1<=g.move.n:=by
                have:=(hok.going g hg).2.2.2.2.1 hc.2
                unfold legalP at this
                rw [if_pos hc.1] at this
                simp only [Bool.and_eq_true,decide_eq_true_eq] at this
                exact this.2.1.1.1.1
               have:=(KinP.stop_is hk (n:=g.move.n) (t:=g.t) hn1).2.1
               exact ⟨h.1,h.2.1,h.2.2.1,by show (KinP.stop _ _ _).1<=v.n;have:=h.2.2.2;omega⟩
             · exact h
           · rename_i hg
             exact ⟨⟨⟨(fun e=>by cases e),(fun e=>by rcases e with e|e|e<;>cases e),(fun e=>by cases e),fun _=>relV_none h hg⟩,trivial⟩,by show relV v _;unfold relV at h ⊢;rw [hg] at h;simp only [hg];exact h⟩
         · split
           · exact ⟨(h0 _ _).1,h⟩
           · rename_i hx
             exact ⟨(h0 _ _).1,h⟩
     · exact ⟨(h0 _ _).1,h⟩
theorem hold_rel {v:Mv} {r:RM} {d:Int} (h:relV v r):relV v (r.hold d):=by
 unfold RM.hold
 split
 · exact h
 · exact h
theorem hoist_rel {c:ConfP} {s:SM} {i:Nat} {r:RM} {v:Mv} {k:Int} {ys:List Seen} (hv:v.kind=3\/v.kind=4) (hy:goodVs r.pose v ys):goodVs r.pose v ((hoistW c s i r k).2.2++ys)/\(hoistW c s i r k).2.2.foldl stepV v=v/\(hoistW c s i r k).2.1.under=r.under:=by
 unfold hoistW
 repeat' split
 all_goals
  refine ⟨?_,?_,rfl⟩
  · first
     |exact ⟨⟨(fun e=>by cases e),fun _=>hv,(fun e=>by cases e),(fun e=>by cases e)⟩,hy⟩
     |exact ⟨⟨(fun e=>by cases e),fun _=>hv,(fun e=>by cases e),(fun e=>by cases e)⟩,⟨(fun e=>by cases e),fun _=>hv,(fun e=>by cases e),(fun e=>by cases e)⟩,hy⟩
  · rfl
theorem tick_rel {c:ConfP} {s:SM} {i:Nat} {r:RM} {v:Mv} (h:relV v r):goodVs r.tick.1.pose v (tickW c s i r).2.2.1/\relV ((tickW c s i r).2.2.1.foldl stepV v) (tickW c s i r).2.1:=by
 cases hu:r.under with
 |none=>
  have e:r.tick=(r,mvZ,0):=by unfold RM.tick;rw [hu]
  unfold tickW
  rw [e,if_pos rfl]
  exact ⟨trivial,h⟩
 |some g=>
  have h':=h
  unfold relV at h
  rw [hu] at h
  simp only at h
  obtain ⟨h1,h2,h3,h4⟩:=h
  have key: ∀ (r':RM) (how:Int),r.tick=(r',g.move,how)->(how=1\/how=2)->r'.pose=g.move.dst->r'.under=none->goodVs r.tick.1.pose v (tickW c s i r).2.2.1/\relV ((tickW c s i r).2.2.1.foldl stepV v) (tickW c s i r).2.1:=by
   intro r' how e hh hp hun
   have hend: ∀ zs,goodVs r'.pose mvZ zs->goodVs r'.pose v (⟨2,0,g.move⟩::zs):=fun zs hz=>⟨⟨(fun e=>by cases e),(fun e=>by rcases e with e|e|e<;>cases e),fun _=>⟨by omega,h1.symm,h3.symm,h4,hp⟩,(fun e=>by cases e)⟩,hz⟩
   have hhalt:goodVs r'.pose mvZ (if how=2 then [⟨3,0,mvZ⟩] else []):=by
    split
    · exact ⟨⟨(fun e=>by cases e),(fun e=>by rcases e with e|e|e<;>cases e),(fun e=>by cases e),fun _=>rfl⟩,trivial⟩
    · trivial
   have hfold: ∀ v,(⟨2,0,g.move⟩::(if how=2 then [(⟨3,0,mvZ⟩:Seen)] else [])).foldl stepV v=mvZ:=fun v=>by split<;>rfl
   unfold tickW
   rw [e]
   simp only
   rw [if_neg (by omega)]
   split
   · rename_i hk
     obtain ⟨q1,q2,q3⟩:=hoist_rel (c:=c) (s:=s) (i:=i) (r:=r') (k:=g.move.kind) (by rw [h1];exact hk) (hend _ hhalt)
     refine ⟨q1,?_⟩
     simp only
     rw [List.foldl_append,hfold]
     unfold relV
     rw [q3,hun]
     rfl
   · refine ⟨hend _ hhalt,?_⟩
     simp only
     rw [hfold]
     unfold relV
     rw [hun]
     rfl
  by_cases d1:0<r.delay
  · have e:r.tick=({r with delay:=r.delay - 1},mvZ,0):=by unfold RM.tick;rw [hu];simp only;rw [if_pos d1]
    unfold tickW
    rw [e,if_pos rfl]
    exact ⟨trivial,h'⟩
  · by_cases d2:0<g.left - 1
    · have e:r.tick=({r with under:=some {g with t:=g.t+1,left:=g.left - 1}},mvZ,0):=by unfold RM.tick;rw [hu];simp only;rw [if_neg d1,if_pos d2]
      unfold tickW
      rw [e,if_pos rfl]
      exact ⟨trivial,h1,h2,h3,h4⟩
    · by_cases d3:r.stopping
      · exact key _ 2 (by unfold RM.tick;rw [hu];simp only;rw [if_neg d1,if_neg d2,if_pos d3]) (.inr rfl) rfl rfl
      · exact key _ 1 (by unfold RM.tick;rw [hu];simp only;rw [if_neg d1,if_neg d2,if_neg d3]) (.inl rfl) rfl rfl
theorem SInv.hear {c:ConfP} {N:Nat} {m:WM} {n:Int} {t:Tele} (hm:MayP c) (hN:N<=8) (hok:WOk c m n) (h:SInv N m):SInv N (m.hear c t).1:=by
 unfold WM.hear
 split
 · split
   · rename_i r hr
     obtain ⟨q1,q2⟩:=hear_rel (i:=t.robot) (t:=t) (kinOf_ok hm) (hok _ r hr) (h.rel _ r hr)
     exact h.set hN (s':=m.s) hr q1 q2
   · exact h
 · exact h
theorem SInv.delay {N:Nat} {m:WM} {j d:Int} (h:SInv N m):SInv N (m.delay j d):=by
 unfold WM.delay
 split
 · rename_i hj
   refine ⟨by show (m.rs.set _ _).length=N;rw [List.length_set];exact h.len,h.sees,fun k y hy=>?_⟩
   change (m.rs.set _ _)[k]?=some y at hy
   by_cases hk:j.toNat=k
   · subst hk
     have hl:j.toNat<m.rs.length:=by omega
     rw [List.getElem?_set_self hl] at hy
     obtain rfl:_=y:=by injection hy
     have e:m.rs.getD j.toNat (RM.start poseO)=m.rs[j.toNat]:=by rw [List.getD_eq_getElem?_getD,List.getElem?_eq_getElem hl];rfl
     rw [e]
     exact hold_rel (h.rel _ _ (List.getElem?_eq_getElem hl))
   · rw [List.getElem?_set_ne hk] at hy
     exact h.rel k y hy
 · exact h
theorem SInv.ticks {c:ConfP} {N:Nat} {m:WM} (hN:N<=8) (h:SInv N m): ∀ j:Nat,SInv N (m.ticks c j).1
 |0=>⟨h.len,h.sees.more (by show m.now<=m.now+1;omega),h.rel⟩
 |j+1=>by
  have ih:=SInv.ticks (c:=c) hN h j
  rw [WM.ticks]
  split
  · rename_i r hr
    obtain ⟨q1,q2⟩:=tick_rel (c:=c) (s:=(m.ticks c j).1.s) (i:=j) (ih.rel _ r hr)
    exact ih.set hN hr q1 q2
  · exact ih
theorem SInv.both {c:ConfP} {N:Nat} (hN:N<=8): ∀ (k:Nat) (a d:WM),SInv N a->SInv N (bothT c k a d).1
 |0,_,_,h=>h
 |k+1,a,d,h=>by
  unfold bothT
  split
  · exact SInv.both hN k _ _ (h.ticks hN _)
  · exact h.ticks hN _
theorem SInv.doM {c:ConfP} {N:Nat} {n:Int} {a d:WM} {x:Op19} (hm:MayP c) (hN:N<=8) (hok:WOk c a n) (h:SInv N a):SInv N (doM c a d x).1:=by
 have hh: ∀ t,SInv N (hearB c a d t).1:=fun t=>h.hear hm hN hok
 unfold Go.Proofs.YtngeeilkpnihmaaGreatDoor.doM
 split
 · exact hh _
 · split
   · split
     · exact hh _
     · exact h
   · split
     · exact h.delay
     · split
       · split
         · exact hh _
         · exact h
       · exact SInv.both hN _ _ _ h
theorem SInv.start {c:ConfP}:SInv c.robots.length (WM.start c):=by
 refine ⟨by simp [WM.start],⟨fun i x hx=>by simp [WM.start] at hx,fun i x y hx=>by simp [WM.start] at hx,fun x hx=>by simp [WM.start] at hx⟩,fun j r hr=>?_⟩
 have hr:(c.robots.map RM.start)[j]?=some r:=hr
 rw [List.getElem?_map] at hr
 cases hx:c.robots[j]? with
 |none=>rw [hx] at hr;cases hr
 |some u=>
  rw [hx] at hr
  injection hr with hr
  subst hr
  show (u0.getD j mvZ).kind=0
  unfold u0
  rw [List.getD_eq_getElem?_getD,List.getElem?_replicate]
  split<;>rfl
theorem sees_play {c:ConfP} (hm:MayP c) (hwf: ∀ p∈c.robots,WfP p) (l:List Op19):SInv c.robots.length (playM c l).1:=by
 have: ∀ j,SInv c.robots.length ((l.take j).foldl (fun p x=>doM c p.1 p.2 x) (WM.start c,WM.start c)).1:=by
  intro j
  induction j with
  |zero=>exact SInv.start
  |succ j ih=>
   by_cases hj:j<l.length
   · rw [List.take_succ_eq_append_getElem hj,List.foldl_append]
     exact ih.doM hm hm.robots8 (play_inv hm hwf l j).1.ok
   · rw [List.take_of_length_le (by omega)]
     rw [List.take_of_length_le (by omega)] at ih
     exact ih
 exact this 50
end Go.Proofs.YtngeeilkpnihmaaGreatDoor
namespace Go.Sk
open Go
theorem al_cut {P:Program} {A B:Code} {Q:Exit->Act->World->Prop} {n:Nat} {l:List (Nat×Value)} {ds:List Deferred} {w:World} (J:List (Nat×Value)->World->Prop)
 (h1:A.wp P (Exit.then (fun a' w'=> ∃ live' z',a'=alAct n z' ds/\LiveOf z' live'/\J live' w') Q) (alAct n l ds) w)
 (h2: ∀ live z w',J live w'->B.wp P Q (alAct n (live++z) ds) w'):(Code.seq A B).wp P Q (alAct n l ds) w:=by
 refine wp_seq (Code.wp_mono ?_ h1)
 intro e a' w' q
 cases e with
 |normal=>
  obtain ⟨live,z,rfl,hL,hJ⟩:=q
  show B.wp P Q _ w'
  rw [hL.act]
  exact h2 _ _ _ hJ
 |_=>exact q
end Go.Sk
namespace Go.Proofs.YtngeeilkpnihmaaGreatDoor
open Go Go.Sk Go.RowKit
set_option maxRecDepth 100000
attribute [local irreducible] wpList Code.wp Calls
theorem run_indexArr {P:Program} {w:World} {t e:TypeId} {sz b o n:Nat} {k:IntKind} {i:Int} (ht:P.underlying t=some (.array n e)) (hsz:sizeB P e sz=true) (h0:0<=i) (h1:i<n):
 (Instr.indexAt t (.pointer (some ⟨b,o,none⟩)) (.int k i)).run P w=.ok (.pointer (some ⟨b,o+i.toNat*sz,none⟩)) w:=by
 simp only [Instr.indexAt,asIntOf,Instr.sureAddr,Sem.run_bind,Sem.run_pure,Result.andThen_ok,run_underlying ht,h0,h1,and_self,if_true,Go.Sk.run_sizeOf hsz,Go.Sk.add_at]
section
variable {P:Program} {ops:Array Oper} {Q:Exit->Act->World->Prop} {o:Oper} {rest:List Oper} {n d:Nat} {l:List (Nat×Value)} {ds:List Deferred} {w0 w:World} {F:Nat->Prop} {M L:List Res}
theorem al_ixA {α:Type} {E:El α} {t e:TypeId} {x y:Operand} {n' i j b:Nat} {kd:IntKind} {xs:List α} {u:α} (hK:Know w0 w F M L) (ho:o.op=.indexAddr t x y) (hd:o.dst=some d) (hw:wantedL ops n l o=some true) (hx:ev n l x=.pointer (some ⟨b,0,none⟩)) (hy:ev n l y=.int kd (i:Int)) (ht:P.underlying t=some (.array n' e)) (hsz:sizeB P e E.sz=true) (hu:xs[i]?=some u)
 (hi:Ix M (rOw t E (.slice (some ⟨b,0,none⟩) n' n') xs) j:=by repeat (first|exact Ix.head|apply Ix.tail))
 (h: ∀ k,At w b k (E.cells u)->Spot E (.slice (some ⟨b,0,none⟩) n' n') b k i->wpList P ops Q rest (alAct n ((d,.pointer (some ⟨b,k,none⟩))::l) ds) w):wpList P ops Q (o::rest) (alAct n l ds) w:=by
 obtain ⟨S,q1,_⟩:=hK.stepI hi
 obtain ⟨hO,rfl⟩:=rOw_p.1 q1
 have hlt:i<xs.length:=(List.getElem?_eq_some_iff.1 hu).1
 obtain ⟨b',hb',hat⟩:=hO.elem hu
 obtain rfl:b=b':=by injection hb' with hb';injection hb'
 have hn:n'=xs.length:=hO.rd.n
 refine al_val hd hw (v:=.pointer (some ⟨b,i*E.sz,none⟩)) ?_ (h _ hat ⟨rfl,rfl⟩)
 simp only [execOp,ho,hx,hy,Sem.run_bind,run_indexArr ht hsz (Int.natCast_nonneg i) (show (i:Int)<(n':Int) by omega),Result.andThen_ok,Sem.run_pure,Int.toNat_natCast,Nat.zero_add]
end
theorem arr_ow {α:Type} {E:El α} {xs:List α} {b n T:Nat} (hn:n=xs.length) (hl:n<=maxLen) {w:World} {S:Nat->Prop} (h:(rBlk b (flat E.cells xs) T).p w S):(rOw T E (.slice (some ⟨b,0,none⟩) n n) xs).p w S:=by
 obtain ⟨h1,rfl⟩:=rBlk_p.1 h
 refine rOw_p.2 ⟨h1.ow hn hl,?_⟩
 funext k
 show (k=b)=(some b=some k)
 simp [eq_comm]
theorem movesArr:Tryz.prog.underlying 39=some (.array 8 38):=by kernel_rfl
def arrZ:List Value:=flat elMove.cells u0
open Classical in
set_option maxHeartbeats 8000000 in
theorem sees_calls {c:ConfV} {sv1:Value} {l1:List Op19} {w:World} (hc:Has w (rConf c)) (hst:Has w stepsR) (hu:Upto c) (hwf: ∀ p∈c.robots.l,PoseWf p) (h1:Rd w elOp19 sv1 l1) (hn1:l1.length<=1048576) (ho1: ∀ x∈l1,∀ u∈El.cells elOp19 x,okNum u):
 Calls Tryz.prog 3 #[.agg c.cells.toArray,sv1] w (Ret (.bool true) w):=by
 have hK:Know w w none' [] [rRd elOp19 sv1 l1,rConf c,stepsR]:=Know.start (L:=[rRd elOp19 sv1 l1,rConf c,stepsR]) w (by
  intro r hr
  simp only [List.mem_cons,List.not_mem_nil,or_false] at hr
  rcases hr with rfl|rfl|rfl
  · exact h1.has
  · exact hc
  · exact hst)
 obtain ⟨sa1,sc1,rfl⟩:=h1.vee
 clear hc hst h1
 obtain ⟨sm,hsm⟩: ∃ sm,decide (smallB c.p)=sm:=⟨_,rfl⟩
 have HS:=Lib.hid hsm
 have kAw:=Lib.hid (fun (W:World) (h:Has W stepsR)=>awake19 h)
 cases sm with
 |false=>
  clear hsm
  refine calls_al _ Tryz.func3 rfl Tryz.ntmps3 (Nat.le_of_ble_eq_true rfl) ?_
  simp only [parL,Nat.reduceAdd]
  repeat' (first
   |(go_at_call 8;(refine (hK.quiet (kn_small HS.out hu hK.lent)).mono ?_;clear hK;rintro e w' ⟨rfl,hK⟩))
   |(go_at_call 9;(refine (hK.quiet (kAw.out _ hK.lent)).mono ?_;clear hK;rintro e w' ⟨rfl,hK⟩))
   |(refine sl ?_)
   |((with_reducible refine wl_at ?_);first|refine al ?_|refine Held.out ?_)
   |(with_reducible refine Two.mk (fun h=>?_) (fun h=>?_)<;>go_prune)
   |(with_reducible refine en ?_)
   |(with_reducible refine ret_at ?_)
   |(with_reducible refine fun (w':World) (b:Nat) hK'=>?_;clear hK;have hK:=hK';clear hK')
   |(with_reducible refine fun (w':World) hK'=>?_;clear hK;have hK:=hK';clear hK')
   |(with_reducible refine fun (b k:Nat) hat=>?_))
  exact al_ret1 rfl Vis.bool ⟨rfl,hK.mod⟩
 |true=>
  have hm:MayP c.p:=(of_decide_eq_true hsm).2.2.2.2.2.2.2
  clear hsm
  have kP1:=Lib.hid (fun (W:World) (h1:Has W (rConf c)) (h2:Has W stepsR) (h3:Rd W elOp19 (.slice sa1 l1.length sc1) l1)=>play_calls hm hu hwf hn1 ho1 h1 h2 h3)
  have hwf': ∀ p∈c.p.robots,WfP p:=fun p hp=>⟨(hwf p hp).x,(hwf p hp).y⟩
  have hlen:(playM c.p l1).1.l.length<=100000000:=by
   have:=((play_inv hm hwf' l1 50).1).seen
   unfold playM
   omega
  have hN8:c.robots.l.length<=8:=hm.robots8
  have hsv:SInv c.robots.l.length (playM c.p l1).1:=sees_play hm hwf' l1
  generalize (playM c.p l1).1=m1 at kP1 hlen hsv
  have hso:=hsv.sees
  clear hsv
  have kS:=Lib.hid (fun (W:World) (wp:Nat) (h:Has W (rWLD c.p wp m1))=>w_sights h hlen)
  have kN:=Lib.hid (fun (W:World) (wp:Nat) (h:Has W (rWLD c.p wp m1))=>w_now h)
  refine calls_al _ Tryz.func3 rfl Tryz.ntmps3 (Nat.le_of_ble_eq_true rfl) ?_
  simp only [parL,Nat.reduceAdd]
  repeat' (first
   |((with_reducible refine wb 2 ?_);(refine al_box hK rfl rfl rfl CellsOf.agg ?_;clear hK;intro w2 b2 hK;replace hK:=hK.lend))
   |((with_reducible refine wl_at (o:=⟨some 7,.alloc _,_,_,_,_⟩) ?_);(refine wl_allocK (z:=.agg arrZ.toArray) (zs:=arrZ) hK rfl rfl (by kernel_rfl) rfl ?_;clear hK;intro w7 b7 hK;replace hK:=hK.seen (r':=rOw 39 elMove (.slice (some ⟨b7,0,none⟩) 8 8) u0) (fun _ _ hh=>arr_ow rfl (by decide) hh) .head;simp only [List.set_cons_zero] at hK))
   |(go_at_call 8;(refine (hK.quiet (kn_small HS.out hu hK.lent)).mono ?_;clear hK;rintro e w' ⟨rfl,hK⟩))
   |(go_at_call 10;(refine (kP1.out _ hK.lent hK.lent hK.rd).mono ?_;rintro e w' ⟨wp1,rfl,hT⟩;replace hK:=hK.push1 hT;clear hT))
   |(go_at_call 11;(refine (kS.out _ _ hK.own).mono ?_;rintro e w' ⟨adS,cpS,rfl,hT⟩;replace hK:=hK.push1 hT;clear hT))
   |(with_reducible refine wc_at (x:=.loop _) ?_;refine Held.out ?_)
   |(refine sl ?_)
   |((with_reducible refine wl_at ?_);first|refine al ?_|refine Held.out ?_)
   |(with_reducible refine Two.mk (fun h=>?_) (fun h=>?_)<;>go_prune)
   |(with_reducible refine en ?_)
   |(with_reducible refine ret_at ?_)
   |(with_reducible refine fun (w':World) (b:Nat) hK'=>?_;clear hK;have hK:=hK';clear hK')
   |(with_reducible refine fun (w':World) hK'=>?_;clear hK;have hK:=hK';clear hK')
   |(with_reducible refine fun (b k:Nat) hat=>?_))
  have hK1:=hK
  clear hK
  refine ⟨al_loop (fun nn live W=> ∃ (j:Nat),live=[(9,.int .i64 (j:Int)),(8,.slice adS m1.l.length cpS),(7,.pointer (some ⟨b7,0,none⟩)),(5,.pointer (some ⟨wp1,0,none⟩)),(2,.pointer (some ⟨b2,0,none⟩))]/\nn+j=m1.l.length/\Know w W none' [rOw 43 elSight (.slice adS m1.l.length cpS) m1.l,rOw 39 elMove (.slice (some ⟨b7,0,none⟩) 8 8) (uAt (m1.l.take j)),rWLD c.p wp1 m1] [rBlk b2 c.cells 26,rConf c,stepsR]) m1.l.length [(9,.int .i64 ((0:Nat):Int)),(8,.slice adS m1.l.length cpS),(7,.pointer (some ⟨b7,0,none⟩)),(5,.pointer (some ⟨wp1,0,none⟩)),(2,.pointer (some ⟨b2,0,none⟩))] (.cons rfl (.cons rfl (.cons rfl (.cons rfl (.cons rfl .nil))))) ⟨0,rfl,rfl,hK1.subL (by simp)⟩ ?_⟩
  clear hK1
  rintro nn live z w1 ⟨j,rfl,hn,hK⟩
  simp only [List.cons_append,List.nil_append]
  by_cases hlt:j<m1.l.length
  · obtain ⟨x,hx⟩: ∃ x,m1.l[j]?=some x:=⟨_,List.getElem?_eq_getElem hlt⟩
    obtain ⟨⟨hr0,hr1⟩,hg⟩:=hso.good j x hx
    have htl:=hso.last x (List.mem_of_getElem? hx)
    have htp: ∀ y,m1.l[j - 1]?=some y->0<j->y.tick<=x.tick:=fun y hy h0=>hso.tick (j - 1) y x hy (by rw [show j - 1+1=j by omega];exact hx)
    have hus:uAt (m1.l.take (j+1))=stepU (uAt (m1.l.take j)) x:=by rw [List.take_add_one,hx,<-uAt_snoc];rfl
    have hul:=uAt_len (m1.l.take j)
    generalize uAt (m1.l.take j)=us at hK hg hus hul
    obtain ⟨yp,hyp⟩: ∃ y,m1.l[j - 1]?=some y:=⟨_,List.getElem?_eq_getElem (by omega)⟩
    have htq:=htp yp hyp
    obtain ⟨sk,st,sr,sb,⟨⟨px,py⟩,pd⟩,⟨mk,md,mn,⟨⟨sx,sy⟩,sd⟩,⟨⟨dx,dy⟩,dd⟩,ma,me⟩⟩:=x
    simp only at hr0 hr1 htl htq
    obtain ⟨rn,rfl⟩: ∃ rn:Nat,sr=rn:=⟨sr.toNat,by omega⟩
    simp only [Int.toNat_natCast] at hg
    obtain ⟨u,hu2⟩: ∃ u,us[rn]?=some u:=⟨_,List.getElem?_eq_getElem (by omega)⟩
    rw [List.getD_eq_getElem?_getD,hu2] at hg
    simp only [Option.getD_some] at hg
    unfold stepU at hus
    simp only [Int.toNat_natCast] at hus
    obtain ⟨pk,pt,pr,pb,⟨⟨qx,qy⟩,qd⟩,⟨ak,ad,an,⟨⟨asx,asy⟩,asd⟩,⟨⟨adx,ady⟩,add⟩,aa,ae⟩⟩:=yp
    simp only at htq
    obtain ⟨uk,ud,un,⟨⟨ux,uy⟩,uu⟩,⟨⟨vx,vy⟩,vv⟩,ua,ue⟩:=u
    have HUS:=Lib.hid hus
    clear htp hus hso
    repeat' (first
     |((with_reducible refine wc_at (x:=.seq (.seq (.region 12 _ _) _) _) ?_);refine Held.out ?_)
     |((with_reducible refine wl_at (o:=⟨some 10,.alloc _,_,_,_,_⟩) ?_);(refine al_alloc hK rfl rfl rfl CellsOf.agg ?_;clear hK;intro w10 b10 hK))
     |((with_reducible refine wt 34 ?_);(refine al_ix (i:=j) (u:=⟨sk,st,(rn:Int),sb,⟨⟨px,py⟩,pd⟩,⟨mk,md,mn,⟨⟨sx,sy⟩,sd⟩,⟨⟨dx,dy⟩,dd⟩,ma,me⟩⟩) (xs:=m1.l) (E:=elSight) hK rfl rfl rfl rfl rfl (by left;repeat (first|exact MemS.ow|apply MemS.tail)) (aggS (by decide)) hx ?_;intro b34 k34 hat;replace hat:At _ _ _ (Sight.cells _):=hat;simp only [Sight.cells,Go.Sk.Move.cells,Pose.cells,Cell.cells,List.cons_append,List.nil_append] at hat))
     |(refine sl ?_)
     |((with_reducible refine wl_at ?_);first|refine al ?_|refine Held.out ?_)
     |(with_reducible refine Two.mk (fun h=>?_) (fun h=>?_)<;>go_prune)
     |(with_reducible refine en ?_)
     |(with_reducible refine ret_at ?_)
     |(with_reducible refine fun (w':World) (b:Nat) hK'=>?_;clear hK;have hK:=hK';clear hK')
     |(with_reducible refine fun (w':World) hK'=>?_;clear hK;have hK:=hK';clear hK')
     |(with_reducible refine fun (b k:Nat) hat=>?_))
    refine ⟨al_cut (fun live W=>live=[(10,.pointer (some ⟨b10,0,none⟩)),(9,.int .i64 (j:Int)),(8,.slice adS m1.l.length cpS),(7,.pointer (some ⟨b7,0,none⟩)),(5,.pointer (some ⟨wp1,0,none⟩)),(2,.pointer (some ⟨b2,0,none⟩))]/\Know w W none' [rBlk b10 [.int .i64 sk,.int .i64 st,.int .i64 (rn:Int),.int .i64 sb,.int .i64 px,.int .i64 py,.bool pd,.int .i64 mk,.int .i64 md,.int .i64 mn,.int .i64 sx,.int .i64 sy,.bool sd,.int .i64 dx,.int .i64 dy,.bool dd,.int .i64 ma,.int .i64 me] 43,rOw 43 elSight (.slice adS m1.l.length cpS) m1.l,rOw 39 elMove (.slice (some ⟨b7,0,none⟩) 8 8) us,rWLD c.p wp1 m1] [rBlk b2 c.cells 26,rConf c,stepsR]) ?_ ?_⟩
    · repeat' (first
      |((with_reducible refine wp_region_stableK (id:=12) hK [28] _ (by kernel_rfl) (by kernel_rfl) (fun r h=>in_own h) (by kernel_rfl) ?_);clear hK;intro w' hK)
      |(with_reducible refine wpC_of ?_)
      |(with_reducible refine atEndC (hK.cls (fun r h=>in_own h)) ?_)
      |((with_reducible refine wpC_end' ?_);(refine wpC_nil ⟨by kernel_rfl,al_stays rfl rfl rfl rfl (scalT (by decide)) rfl (rest:=stays_nil),?_⟩))
      |((with_reducible refine wl_at (o:=⟨some 43,_,_,_,_,some (2,true)⟩) ?_);first|(refine al_sub rfl rfl rfl rfl rfl (by omega) ?_;rw [show (j:Int) - 1=((j - 1:Nat):Int) by omega])|refine al_pass rfl rfl ?_)
      |((with_reducible refine wt 44 ?_);first|(refine al_ix (i:=j - 1) (u:=⟨pk,pt,pr,pb,⟨⟨qx,qy⟩,qd⟩,⟨ak,ad,an,⟨⟨asx,asy⟩,asd⟩,⟨⟨adx,ady⟩,add⟩,aa,ae⟩⟩) (xs:=m1.l) (E:=elSight) hK rfl rfl rfl rfl rfl (by left;repeat (first|exact MemS.ow|apply MemS.tail)) (aggS (by decide)) hyp ?_;intro b44 k44 hat;replace hat:At _ _ _ (Sight.cells _):=hat;simp only [Sight.cells,Go.Sk.Move.cells,Pose.cells,Cell.cells,List.cons_append,List.nil_append] at hat)|refine al_pass rfl rfl ?_)
      |(go_at_call 12;(refine (hK.quiet (kN.out _ _ hK.own)).mono ?_;clear hK;rintro e w' ⟨rfl,hK⟩))
       |(refine sl ?_)
       |((with_reducible refine wl_at ?_);first|refine al ?_|refine Held.out ?_)
       |(with_reducible refine Two.mk (fun h=>?_) (fun h=>?_)<;>go_prune)
       |(with_reducible refine en ?_)
       |(with_reducible refine ret_at ?_)
       |(with_reducible refine fun (w':World) (b:Nat) hK'=>?_;clear hK;have hK:=hK';clear hK')
       |(with_reducible refine fun (w':World) hK'=>?_;clear hK;have hK:=hK';clear hK')
       |(with_reducible refine fun (b k:Nat) hat=>?_))
      all_goals first
       |exact ⟨_,_,rfl,.cons rfl (.cons rfl (.cons rfl (.cons rfl (.cons rfl (.cons rfl .nil))))),rfl,hK⟩
       |(exfalso;omega)
    · clear hK
      rintro live z w2 ⟨rfl,hK⟩
      simp only [List.cons_append,List.nil_append]
      have g1:=hg.start
      have g2:=hg.bins
      have g3:=hg.fin
      have g4:=hg.halt
      simp only at g1 g2 g3 g4
      repeat' (first
      |((with_reducible refine wl_at (o:=⟨_,.indexAddr 39 _ _,_,_,_,_⟩) ?_);(refine al_ixA (i:=rn) (u:=⟨uk,ud,un,⟨⟨ux,uy⟩,uu⟩,⟨⟨vx,vy⟩,vv⟩,ua,ue⟩) (xs:=us) (E:=elMove) hK rfl rfl rfl rfl rfl movesArr (aggS (by decide)) hu2 (h:=?_);intro kA hat hsp;replace hat:At _ _ _ (Go.Sk.Move.cells _):=hat;simp only [Sight.cells,Go.Sk.Move.cells,Pose.cells,Cell.cells,List.cons_append,List.nil_append] at hat))
      |((with_reducible refine wl_at (o:=⟨none,.store 38 (.tmp 84) _,_,_,_,_⟩) ?_);(refine al_storeEP (off:=0) (k:=kA) _ ⟨mk,md,mn,⟨⟨sx,sy⟩,sd⟩,⟨⟨dx,dy⟩,dd⟩,ma,me⟩ hK rfl rfl rfl rfl rfl rfl .agg (aggS (by decide)) rfl hsp hu2 (by repeat (first|exact Put.nil|apply Put.take|apply Put.drop)) (h:=?_);clear hK;intro w' hK;simp only [z0,z1] at hK))
      |((with_reducible refine wl_at (o:=⟨none,.store 38 (.tmp 137) _,_,_,_,_⟩) ?_);(refine al_storeEP (off:=0) (k:=kA) _ mvZ hK rfl rfl rfl rfl rfl rfl .agg (aggS (by decide)) rfl hsp hu2 (by repeat (first|exact Put.nil|apply Put.take|apply Put.drop)) (h:=?_);clear hK;intro w' hK;simp only [z0,z1] at hK))
       |(refine sl ?_)
       |((with_reducible refine wl_at ?_);first|refine al ?_|refine Held.out ?_)
       |(with_reducible refine Two.mk (fun h=>?_) (fun h=>?_)<;>go_prune)
       |(with_reducible refine en ?_)
       |(with_reducible refine ret_at ?_)
       |(with_reducible refine fun (w':World) (b:Nat) hK'=>?_;clear hK;have hK:=hK';clear hK')
       |(with_reducible refine fun (w':World) hK'=>?_;clear hK;have hK:=hK';clear hK')
       |(with_reducible refine fun (b k:Nat) hat=>?_))
      all_goals first
       |(refine ⟨nn - 1,[(9,.int .i64 ((j+1:Nat):Int)),(8,.slice adS m1.l.length cpS),(7,.pointer (some ⟨b7,0,none⟩)),(5,.pointer (some ⟨wp1,0,none⟩)),(2,.pointer (some ⟨b2,0,none⟩))],_,by omega,rfl,.cons rfl (.cons rfl (.cons rfl (.cons rfl (.cons rfl .nil)))),j+1,rfl,by omega,?_⟩
         rw [HUS.out]
         first
         |(rw [if_pos (by omega)];exact hK.sub (.cons _ (.cons _ (List.Sublist.refl _))))
         |(rw [if_neg (by omega),if_pos (by omega)];exact hK.sub (.cons _ (.cons _ (List.Sublist.refl _))))
         |(rw [if_neg (by omega),if_neg (by omega)];exact hK.sub (.cons _ (.cons _ (List.Sublist.refl _)))))
       |exact absurd (g3 (by omega)).2.2.2.2 (by assumption)
       |exact absurd (g3 (by omega)).2.2.1 (by assumption)
  · repeat' (first
     |(go_at_call 9;(refine (hK.quiet (kAw.out _ hK.lent)).mono ?_;clear hK;rintro e w' ⟨rfl,hK⟩))
     |(refine sl ?_)
     |((with_reducible refine wl_at ?_);first|refine al ?_|refine Held.out ?_)
     |(with_reducible refine Two.mk (fun h=>?_) (fun h=>?_)<;>go_prune)
     |(with_reducible refine en ?_)
     |(with_reducible refine ret_at ?_)
     |(with_reducible refine fun (w':World) (b:Nat) hK'=>?_;clear hK;have hK:=hK';clear hK')
     |(with_reducible refine fun (w':World) hK'=>?_;clear hK;have hK:=hK';clear hK')
     |(with_reducible refine fun (b k:Nat) hat=>?_))
    exact al_ret1 rfl Vis.bool ⟨rfl,hK.mod⟩
end Go.Proofs.YtngeeilkpnihmaaGreatDoor
