/- Texts of mine that belong together: Kit, Ref7, Ref7c, Ref7a, Ref7b, Ref7d, Ref7e, Ref7f, Ref7g, Ref7h. -/
import Derived.Test.YtngeeilkpnihmaaGreatDoorSkBZ
import Derived.Test.YtngeeilkpnihmaaGreatDoorProg
set_option linter.all false
namespace Go.Proofs.YtngeeilkpnihmaaGreatDoor
open Go Go.Sk Go.RowKit
def scalL:List Nat:=[1,2,3,4,5,6,9,10,11,12,15,16,17,20,21,22,23,24,27,28,29,30,32,40,41,44,45,46,47,48,49,50,52,53,54,55,56,59,61,62,63,64,66,67,68,69,70,71,72,75,76,77,78,81,82,83,87,89,91,93,95,96,98,99,100,103,104,105,106,107,108,111,112,113,114,117,118,121,122,125,126,128,129,130,134,135,136,137,138,139,140,141,142,144,145,146,153,167,168,169,170,171,172,173,174,177,178,179,180,181,182,183,185,186,187,189,190,191,192,194,196,198,200,201,203,204,205,206,207,208,209,210,211,212,213,214,215,216,217,218,219,220,221,222,223,224,225,226,227,228,229,230,231,232,233,234,235,236,237,238,244,245,246,247,248,249,252,253,254]
def aggL:List (Nat×Nat):=[(7,4),(8,4),(13,2),(14,2),(18,1),(19,1),(25,16),(26,16),(33,2),(34,2),(35,3),(36,3),(37,11),(38,11),(39,88),(42,18),(43,18),(57,19),(58,19),(73,22),(74,22),(79,5),(80,5),(84,3),(85,3),(101,18),(102,18),(109,20),(110,20),(115,40),(116,40),(119,12),(120,12),(123,6),(124,6),(131,14),(132,14),(147,3),(148,3),(149,3),(150,0),(151,0),(152,0),(154,1),(155,1),(156,2),(157,2),(158,2),(159,2),(160,3),(161,3),(162,4),(163,4),(164,68),(165,71),(166,71),(175,3),(176,3),(193,2),(202,8),(239,4),(240,4),(241,0),(242,0),(243,0),(250,11),(251,11)]
theorem scalAll:(scalL.all fun t=>scalarB Tryz.prog t && sizeB Tryz.prog t 1)=true:=by kernel_rfl
theorem aggAll:(aggL.all fun t=>aggB Tryz.prog t.1 t.2 && sizeB Tryz.prog t.1 t.2)=true:=by kernel_rfl
theorem scalT {t:Nat} (h:scalL.contains t=true):scalarB Tryz.prog t=true:=by
 have:=List.all_eq_true.1 scalAll t (by simpa using h)
 simp only [Bool.and_eq_true] at this
 exact this.1
theorem sizT {t:Nat} (h:scalL.contains t=true):sizeB Tryz.prog t 1=true:=by
 have:=List.all_eq_true.1 scalAll t (by simpa using h)
 simp only [Bool.and_eq_true] at this
 exact this.2
theorem aggMem {t:Nat} (h:(aggL.lookup t).isSome=true):(t,(aggL.lookup t).getD 0)∈aggL:=by
 generalize aggL=l at h ⊢
 induction l with
 |nil=>simp at h
 |cons x l ih=>
  obtain ⟨a,b⟩:=x
  rw [List.lookup_cons] at h ⊢
  by_cases e:(t == a)=true
  · simp only [e]
    rw [beq_iff_eq] at e
    subst e
    simp
  · simp only [e] at h ⊢
    exact List.mem_cons_of_mem _ (ih h)
theorem aggT {t:Nat} (h:(aggL.lookup t).isSome=true):aggB Tryz.prog t ((aggL.lookup t).getD 0)=true:=by
 have:=List.all_eq_true.1 aggAll _ (aggMem h)
 simp only [Bool.and_eq_true] at this
 exact this.1
theorem aggS {t:Nat} (h:(aggL.lookup t).isSome=true):sizeB Tryz.prog t ((aggL.lookup t).getD 0)=true:=by
 have:=List.all_eq_true.1 aggAll _ (aggMem h)
 simp only [Bool.and_eq_true] at this
 exact this.2
theorem ld {G' G:Prop} (h:G') (t:G'->G:=by
 intro g
 first
 |exact wl_loadK hK rfl rfl rfl (scalT (by decide)) (h:=g)
 |exact wl_loadSK hK rfl rfl rfl (aggT (by decide)) (h:=g)
 |exact wl_loadA0 rfl rfl rfl (scalT (by decide)) (h:=g)
 |exact wl_loadA rfl rfl rfl (scalT (by decide)) (h:=g)
 |exact wl_loadSA rfl rfl rfl (aggT (by decide)) (h:=g)):G:=t h
theorem ldK {G' G:Prop} (h:G') (t:G'->G:=by
 intro g
 first
 |exact wl_loadK hK rfl rfl rfl (scalT (by decide)) (h:=g)
 |exact wl_loadSK hK rfl rfl rfl (aggT (by decide)) (h:=g)):G:=t h
theorem ldM {G' G:Prop} (h:G') (t:G'->G:=by
 intro g
 first
 |exact wl_loadSK hK rfl rfl rfl (aggT (by decide)) (h:=g)
 |exact wl_loadA0 rfl rfl rfl (scalT (by decide)) (h:=g)):G:=t h
end Go.Proofs.YtngeeilkpnihmaaGreatDoor
namespace Go.Proofs.YtngeeilkpnihmaaGreatDoor
open Go Go.Sk Go.RowKit
theorem cellEq:eqTy Tryz.prog 34 cellKs=true:=by kernel_rfl
theorem cellTy:SliceTy Tryz.prog 22 34 elCell.sz 16 [.int .i64 0,.int .i64 0]:=
 SliceTy.mk' (z:=.agg #[.int .i64 0,.int .i64 0]) (by kernel_rfl) (by kernel_rfl) rfl rfl
theorem poseTy:SliceTy Tryz.prog 23 36 elPose.sz 24 [.int .i64 0,.int .i64 0,.bool false]:=
 SliceTy.mk' (z:=.agg #[.int .i64 0,.int .i64 0,.bool false]) (by kernel_rfl) (by kernel_rfl) rfl rfl
theorem intTy:SliceTy Tryz.prog 53 3 elInt.sz 8 [.int .i64 0]:=
 SliceTy.mk' (z:=.int .i64 0) (by kernel_rfl) (by kernel_rfl) rfl rfl
set_option maxHeartbeats 2000000 in
theorem ref_in {c:ConfV} {x:Cell} {w:World}:Calls Tryz.prog 46 #[.agg c.cells.toArray,.agg x.cells.toArray] w (Ret (.bool (inB c.p x)) w):=by
 have hcs:x.x<0\/(0<=x.x/\x.y<0)\/(0<=x.x/\0<=x.y/\c.w<=x.x)\/(0<=x.x/\0<=x.y/\x.x<c.w/\c.h<=x.y)\/(0<=x.x/\0<=x.y/\x.x<c.w/\x.y<c.h):=by omega
 have hK:=Know.start (L:=[]) w (by simp)
 rcases hcs with h1|⟨h1,h2⟩|⟨h1,h2,h3⟩|⟨h1,h2,h3,h4⟩|⟨h1,h2,h3,h4⟩
 all_goals
  go_enter Tryz.func46,Tryz.ntmps46
  go_wp2_with (first
   |((with_reducible refine wb 2 ?_)
     (refine wl_boxK hK rfl rfl rfl rfl ?_;clear hK;intro w2 b2 hK))
   |((with_reducible refine wb 3 ?_)
     (refine wl_boxK hK rfl rfl rfl rfl ?_;clear hK;intro w3 b3 hK))
   |go_big_skip
   |((with_reducible refine wl ?_);refine ld ?_)
   |((with_reducible refine tx _ hK ?_);clear hK;intro w' hK)
   |(with_reducible refine en ?_))
  go_ret
  refine ⟨?_,hK.mod⟩
  first
   |(rw [inB_iff.2 (show 0<=x.x/\0<=x.y/\x.x<c.w/\x.y<c.h by omega)];rfl)
   |(rw [inB_not (show ¬ (0<=x.x/\0<=x.y/\x.x<c.w/\x.y<c.h) by omega)];rfl)
   |(rw [inB_not (show ¬ (0<=x.x/\0<=x.y/\x.x<c.w/\x.y<c.h) by omega)];exact congrArg (fun b=>Ending.returned (Value.bool b)) (decide_eq_false (Int.not_lt.2 ‹c.h<=x.y›)))
   |(rw [inB_iff.2 (show 0<=x.x/\0<=x.y/\x.x<c.w/\x.y<c.h by omega)];exact congrArg (fun b=>Ending.returned (Value.bool b)) (decide_eq_true ‹x.y<c.h›))
end Go.Proofs.YtngeeilkpnihmaaGreatDoor
namespace Go.Proofs.YtngeeilkpnihmaaGreatDoor
open Go Go.Sk Go.RowKit
structure Sized (c:ConfV):Prop where
 blocked:c.blocked.l.length<=9223372036854775807
 ports:c.ports.l.length<=9223372036854775807
 robots:c.robots.l.length<=9223372036854775807
 stacks:c.stacks.l.length<=9223372036854775807
 bins: ∀ x∈c.stacks.l,x.bins.l.length<=9223372036854775807
set_option maxHeartbeats 1000000 in
theorem ref_cells {p:Pose} {w:World}:Calls Tryz.prog 51 #[.agg p.cells.toArray] w fun e w'=> ∃ ad,e=.returned (.slice ad 2 2)/\Turn (rOw 34 elCell (.slice ad 2 2) p.both) w w' none':=by
 have hK:=Know.start (L:=[]) w (by simp)
 obtain ⟨⟨x,y⟩,d⟩:=p
 cases d
 all_goals
  go_enter Tryz.func51,Tryz.ntmps51
  go_wp2_with (first
   |((with_reducible refine wb 1 ?_)
     (refine wl_boxK hK rfl rfl rfl rfl ?_;clear hK;intro w1 b1 hK))
   |(refine wl_at (o:=⟨some 6,_,_,_,_,_⟩) ?_
     (refine wl_loadS rfl rfl rfl (aggT (by decide)) rfl (hK.blk.at (ds:=Cell.cells ⟨x,y⟩) (o:=0) (fun j u h=>by rw [Nat.zero_add];rcases j with _|_|j<;>first|exact h|(simp [Cell.cells] at h))) ?_))
   |(refine wl_at (o:=⟨some 17,_,_,_,_,_⟩) ?_
     (refine wl_loadS rfl rfl rfl (aggT (by decide)) rfl (hK.blk.at (ds:=Cell.cells ⟨x,y⟩) (o:=0) (fun j u h=>by rw [Nat.zero_add];rcases j with _|_|j<;>first|exact h|(simp [Cell.cells] at h))) ?_))
   |(refine wl_at (o:=⟨some 15,_,_,_,_,_⟩) ?_
     (refine wl_buildK 34 elCell [⟨x,y⟩,⟨x,wrap64 (y+1)⟩] hK rfl rfl (fun W=>by kernel_rfl) rfl (by decide) ?_;clear hK;intro ad w5 hK))
   |(refine wl_at (o:=⟨some 26,_,_,_,_,_⟩) ?_
     (refine wl_buildK 34 elCell [⟨x,y⟩,⟨wrap64 (x+1),y⟩] hK rfl rfl (fun W=>by kernel_rfl) rfl (by decide) ?_;clear hK;intro ad w5 hK))
   |go_big_skip
   |((with_reducible refine wl ?_);refine ld ?_)
   |((with_reducible refine tx _ hK ?_);clear hK;intro w' hK)
   |(with_reducible refine en ?_))
  go_ret
  exact ⟨ad,rfl,hK.turn⟩
end Go.Proofs.YtngeeilkpnihmaaGreatDoor
namespace Go.Proofs.YtngeeilkpnihmaaGreatDoor
open Go Go.Sk Go.RowKit
set_option maxHeartbeats 1000000 in
theorem ref_among {s:Sv Cell} {x:Cell} {w:World} (hs:Rd w elCell s.val s.l) (hl:s.l.length<=9223372036854775807):Calls Tryz.prog 47 #[s.val,.agg x.cells.toArray] w (Ret (.int .i64 (s.l.count x:Nat)) w):=by
 have hK:=Know.start (L:=[rRd elCell s.val s.l]) w (by simpa using hs.has)
 go_enter Tryz.func47,Tryz.ntmps47
 go_wp2_with (first
  |((with_reducible refine wb 3 ?_)
    (refine wl_boxK hK rfl rfl rfl rfl ?_;clear hK;intro w3 b3 hK))
  |go_big_skip
  |((with_reducible refine wl ?_);refine ld ?_)
  |(with_reducible refine en ?_))
 go_loopw [5,6] (fun n i wr=> ∃ j:Nat,i=.int .i64 j/\j<=s.l.length/\n=.int .i64 ((s.l.take j).count x:Nat)/\Know w wr none' [rBlk b3 x.cells 34] [rRd elCell s.val s.l]) (fun _ i _=>s.l.length - (intOf i).toNat)
 case atStart=>exact ⟨0,rfl,Nat.zero_le _,rfl,hK⟩
 case round=>
  obtain ⟨j,rfl,hj,rfl,hK⟩:=hrel
  by_cases hlt:j<s.l.length
  · obtain ⟨u,hu⟩: ∃ u,s.l[j]?=some u:=⟨_,List.getElem?_eq_getElem hlt⟩
    have hcn:(s.l.take (j+1)).count x=(s.l.take j).count x+if u=x then 1 else 0:=by
     rw [List.take_add_one,hu,List.count_append]
     by_cases e:u=x<;>simp [e,List.count_cons]
    have hle:(s.l.take j).count x<=j:=Nat.le_trans List.count_le_length (by simp;omega)
    have HU:=Lib.hid hu
    have HC:=Lib.hid hcn
    clear hu hcn
    by_cases hux:u=x
    all_goals
     first|have hd:decide (u=x)=true:=decide_eq_true hux|have hd:decide (u=x)=false:=decide_eq_false hux
     have HX:=Lib.hid hux
     clear hux
     go_wp2_with (first
      |((with_reducible refine wt 15 ?_)
        (refine wl_ixK hK rfl rfl rfl rfl cellTy.und cellTy.size (h:=?_);intro b15 k15 hat15))
      |((with_reducible refine wl_at (o:=⟨_,.binOp .eql 34 _ _ _,_,_,_,_⟩) ?_)
        (refine wl_eqlC cellEq rfl rfl rfl rfl ?_))
      |((with_reducible refine wl_at (o:=⟨_,.binOp .neq 34 _ _ _,_,_,_,_⟩) ?_)
        (refine wl_neqC cellEq rfl rfl rfl rfl ?_))
      |go_big_skip
      |((with_reducible refine wl ?_);refine ld ?_)
      |((with_reducible refine tx _ hK ?_);clear hK;intro w' hK)
      |(with_reducible refine en ?_))
     go_roundw
     case rel=>exact ⟨j+1,by go_num,by omega,by rw [HC.out];first|(rw [if_pos HX.out];go_num)|(rw [if_neg HX.out];go_num),hK⟩
     case measure=>simp [intOf];omega
  · obtain rfl:j=s.l.length:=by omega
    go_wp2_with fail
    go_ret
    exact ⟨by first|rfl|(rw [List.take_length];rfl),hK.mod⟩
end Go.Proofs.YtngeeilkpnihmaaGreatDoor
namespace Go.Proofs.YtngeeilkpnihmaaGreatDoor
open Go Go.Sk Go.RowKit
set_option maxRecDepth 100000
set_option maxHeartbeats 1000000 in
theorem ref_open {c:ConfV} {x:Cell} {w:World} (hc:Has w (rConf c)) (hz:Sized c):Calls Tryz.prog 44 #[.agg c.cells.toArray,.agg x.cells.toArray] w (Ret (.bool (openB c.p x)) w):=by
 have hK:=(Know.start (L:=[rConf c]) w (by simpa using hc)).conf (c:=c) (by simp)
 have hb:=hz.blocked
 have hI:=Lib.hid (fun (W:World)=>ref_in (c:=c) (x:=x) (w:=W))
 have hO:openB c.p x=(inB c.p x && decide (c.blocked.l.count x=0)):=rfl
 rw [hO]
 clear hO
 generalize inB c.p x=b1 at hI ⊢
 by_cases h0:c.blocked.l.count x=0
 all_goals
  have hcz:(((c.blocked.l.count x:Nat):Int) == 0)=decide (c.blocked.l.count x=0):=by rw [Bool.eq_iff_iff];simp
  first|rw [decide_eq_true h0] at hcz ⊢ |rw [decide_eq_false h0] at hcz ⊢
  clear h0
  cases b1
  all_goals
   go_enter Tryz.func44,Tryz.ntmps44
   go_wp2_with (first
    |((with_reducible refine wb 2 ?_)
      (refine wl_boxK hK rfl rfl rfl rfl ?_;clear hK;intro w2 b2 hK))
    |((with_reducible refine wb 3 ?_)
      (refine wl_boxK hK rfl rfl rfl rfl ?_;clear hK;intro w3 b3 hK))
    |(go_at_call 46;(refine (hK.quiet (hI.out _)).mono ?_;clear hK;rintro e w' ⟨rfl,hK⟩))
    |(go_at_call 47;(refine (hK.quiet (ref_among (s:=c.blocked) (x:=x) hK.rd hb)).mono ?_;clear hK;rintro e w' ⟨rfl,hK⟩))
    |go_big_skip
    |((with_reducible refine wl ?_);refine ld ?_)
    |((with_reducible refine tx _ hK ?_);clear hK;intro w' hK)
    |(with_reducible refine en ?_))
   go_ret
   exact ⟨rfl,hK.mod⟩
set_option maxHeartbeats 1000000 in
theorem ref_beside {c:ConfV} {x:Cell} {w:World} (hc:Has w (rConf c)) (hz:Sized c):Calls Tryz.prog 49 #[.agg c.cells.toArray,.agg x.cells.toArray] w (Ret (.bool (besideB c.p x)) w):=by
 have hK:=Know.start (L:=[rConf c]) w (by simpa using hc)
 have h1:=Lib.hid (fun (W:World) (h:Has W (rConf c))=>show Calls Tryz.prog 44 #[.agg c.cells.toArray,.agg #[.int .i64 (wrap64 (x.x+1)),.int .i64 x.y]] W (Ret (.bool (openB c.p (east x))) W) from ref_open h hz)
 have h2:=Lib.hid (fun (W:World) (h:Has W (rConf c))=>show Calls Tryz.prog 44 #[.agg c.cells.toArray,.agg #[.int .i64 x.x,.int .i64 (wrap64 (x.y+1))]] W (Ret (.bool (openB c.p (south x))) W) from ref_open h hz)
 unfold besideB
 generalize openB c.p (east x)=b1 at h1 ⊢
 generalize openB c.p (south x)=b2 at h2 ⊢
 cases b1<;>cases b2
 all_goals
  go_enter Tryz.func49,Tryz.ntmps49
  go_wp2_with (first
   |((with_reducible refine wb 2 ?_)
     (refine wl_boxK hK rfl rfl rfl rfl ?_;clear hK;intro w2 b2 hK))
   |((with_reducible refine wb 3 ?_)
     (refine wl_boxK hK rfl rfl rfl rfl ?_;clear hK;intro w3 b3 hK))
   |(go_at_call 44;first
      |(with_reducible refine (hK.quiet (h1.out _ (hK.has (by simp)))).mono ?_);clear hK;rintro e w' ⟨rfl,hK⟩
      |(with_reducible refine (hK.quiet (h2.out _ (hK.has (by simp)))).mono ?_);clear hK;rintro e w' ⟨rfl,hK⟩)
   |go_big_skip
   |((with_reducible refine wl ?_);refine ld ?_)
   |((with_reducible refine tx _ hK ?_);clear hK;intro w' hK)
   |(with_reducible refine en ?_))
  go_ret
  exact ⟨rfl,hK.mod⟩
end Go.Proofs.YtngeeilkpnihmaaGreatDoor
namespace Go.Proofs.YtngeeilkpnihmaaGreatDoor
open Go Go.Sk Go.RowKit
set_option maxRecDepth 100000
theorem idx_first {l:List Cell} {x:Cell} {j:Nat} (h1:x ∉ l.take j) (h2:l[j]?=some x):l.idxOf x=j:=by
 have hlt:j<l.length:=(List.getElem?_eq_some_iff.1 h2).1
 have e:l=l.take j++l.drop j:=(List.take_append_drop j l).symm
 rw [e,List.idxOf_append,if_neg h1,List.length_take,Nat.min_eq_left (by omega)]
 have h3:l.drop j=x::l.drop (j+1):=by
  rw [List.drop_eq_getElem_cons hlt]
  congr 1
  rw [List.getElem?_eq_getElem hlt] at h2
  exact Option.some.inj h2
 rw [h3,List.idxOf_cons_self,Nat.zero_add]
set_option maxHeartbeats 1000000 in
theorem ref_port {c:ConfV} {x:Cell} {w:World} (hc:Has w (rConf c)) (hz:Sized c):Calls Tryz.prog 95 #[.agg c.cells.toArray,.agg x.cells.toArray] w (Ret (.int .i64 (portOf c.p x)) w):=by
 have hK:=(Know.start (L:=[rConf c]) w (by simpa using hc)).conf (c:=c) (by simp)
 have hb:=hz.ports
 go_enter Tryz.func95,Tryz.ntmps95
 go_wp2_with (first
  |((with_reducible refine wb 2 ?_)
    (refine wl_boxK hK rfl rfl rfl rfl ?_;clear hK;intro w2 b2 hK))
  |((with_reducible refine wb 3 ?_)
    (refine wl_boxK hK rfl rfl rfl rfl ?_;clear hK;intro w3 b3 hK))
  |go_big_skip
  |((with_reducible refine wl ?_);refine ld ?_)
  |(with_reducible refine en ?_))
 go_loopw [5,4] (fun i r wr=> ∃ j:Nat,r=.int .i64 0/\i=.int .i64 j/\j<=c.ports.l.length/\Hid (x ∉ c.ports.l.take j)/\Know w wr none' [rBlk b3 x.cells 34,rBlk b2 c.cells 26] [rRd elCell c.ports.val c.ports.l]) (fun i _ _=>c.ports.l.length - (intOf i).toNat)
 case atStart=>exact ⟨0,rfl,rfl,Nat.zero_le _,by show _ ∉ _;simp,hK.subL (by simp)⟩
 case round=>
  obtain ⟨j,rfl,rfl,hj,hno,hK⟩:=hrel
  by_cases hlt:j<c.ports.l.length
  · obtain ⟨u,hu⟩: ∃ u,c.ports.l[j]?=some u:=⟨_,List.getElem?_eq_getElem hlt⟩
    have HU:=Lib.hid hu
    clear hu
    by_cases hux:u=x
    all_goals
     first|have hd:decide (u=x)=true:=decide_eq_true hux|have hd:decide (u=x)=false:=decide_eq_false hux
     have HX:=Lib.hid hux
     clear hux
     go_wp2_with (first
      |((with_reducible refine wt 16 ?_)
        (refine wl_ixK hK rfl rfl rfl rfl cellTy.und cellTy.size (h:=?_);intro b16 k16 hat16))
      |((with_reducible refine wl_at (o:=⟨_,.binOp .eql 34 _ _ _,_,_,_,_⟩) ?_)
        (refine wl_eqlC cellEq rfl rfl rfl rfl ?_))
      |((with_reducible refine wl_at (o:=⟨_,.binOp .neq 34 _ _ _,_,_,_,_⟩) ?_)
        (refine wl_neqC cellEq rfl rfl rfl rfl ?_))
      |go_big_skip
      |((with_reducible refine wl ?_);refine ld ?_)
      |((with_reducible refine tx _ hK ?_);clear hK;intro w' hK)
      |(with_reducible refine en ?_))
    · go_ret
      have h1:c.ports.l[j]?=some x:=by rw [<-HX.out];exact HU.out
      have e:portOf c.p x=(j:Int):=by
       unfold portOf
       rw [if_pos (show x∈c.p.ports from List.mem_of_getElem? h1),show c.p.ports.idxOf x=j from idx_first hno.out h1]
      exact ⟨by rw [e];rfl,hK.mod⟩
    · go_roundw
      case rel=>
       refine ⟨j+1,rfl,by go_num,by omega,?_,hK⟩
       show x ∉ _
       rw [List.take_add_one,HU.out]
       simp only [Option.toList_some,List.mem_append,List.mem_singleton,not_or]
       exact ⟨hno.out,fun e=>HX.out e.symm⟩
      case measure=>simp [intOf];omega
  · obtain rfl:j=c.ports.l.length:=by omega
    go_wp2_with (first
     |go_big_skip
     |((with_reducible refine wl ?_);refine ld ?_)
     |(with_reducible refine en ?_))
    go_ret
    have e:portOf c.p x= -1:=by
     unfold portOf
     rw [if_neg]
     have:=hno.out
     rw [List.take_length] at this
     exact this
    exact ⟨by rw [e];rfl,hK.mod⟩
set_option maxHeartbeats 1000000 in
theorem ref_home {c:ConfV} {x:Cell} {w:World} (hc:Has w (rConf c)) (hz:Sized c):Calls Tryz.prog 48 #[.agg c.cells.toArray,.agg x.cells.toArray] w (Ret (.bool (homeB c.p x)) w):=by
 have hK:=(Know.start (L:=[rConf c]) w (by simpa using hc)).conf (c:=c) (by simp)
 have hb:=hz.robots
 go_enter Tryz.func48,Tryz.ntmps48
 go_wp2_with (first
  |((with_reducible refine wb 2 ?_)
    (refine wl_boxK hK rfl rfl rfl rfl ?_;clear hK;intro w2 b2 hK))
  |((with_reducible refine wb 3 ?_)
    (refine wl_boxK hK rfl rfl rfl rfl ?_;clear hK;intro w3 b3 hK))
  |go_big_skip
  |((with_reducible refine wl ?_);refine ld ?_)
  |(with_reducible refine en ?_))
 go_loopw [5,4] (fun i r wr=> ∃ j:Nat,r=.bool false/\i=.int .i64 j/\j<=c.robots.l.length/\Hid (∀ p∈c.robots.l.take j,p.both.count x=0)/\Know w wr none' [rBlk b3 x.cells 34,rBlk b2 c.cells 26] [rRd elPose c.robots.val c.robots.l]) (fun i _ _=>c.robots.l.length - (intOf i).toNat)
 case atStart=>exact ⟨0,rfl,rfl,Nat.zero_le _,by show ∀ p∈_,_;simp,hK.subL (by simp)⟩
 case round=>
  obtain ⟨j,rfl,rfl,hj,hno,hK⟩:=hrel
  by_cases hlt:j<c.robots.l.length
  · obtain ⟨u,hu⟩: ∃ u,c.robots.l[j]?=some u:=⟨_,List.getElem?_eq_getElem hlt⟩
    have HU:=Lib.hid hu
    clear hu
    have HA:=Lib.hid (fun (W:World) (ad:Option Addr) (h:Rd W elCell (.slice ad 2 2) u.both)=>show Calls Tryz.prog 47 #[.slice ad 2 2,.agg x.cells.toArray] W (Ret (.int .i64 (u.both.count x:Nat)) W) from ref_among (s:=⟨ad,u.both,2⟩) h (by simp [Pose.both]))
    obtain ⟨n,hn⟩: ∃ n,n=u.both.count x:=⟨_,rfl⟩
    rw [<-hn] at HA
    have HN:=Lib.hid hn
    clear hn
    by_cases hp:0<n
    all_goals
     first|have hd:(0:Int)<(n:Int):=by omega|(obtain rfl:n=0:=by omega)
     go_wp2_with (first
      |((with_reducible refine wt 16 ?_)
        (refine wl_ixK hK rfl rfl rfl rfl poseTy.und poseTy.size (h:=?_);intro b16 k16 hat16))
      |((with_reducible refine wp_region_stableK (id:=4) hK [6] [rBlk b3 x.cells 34] (by kernel_rfl) (by kernel_rfl) (by simp) (by kernel_rfl) ?_);clear hK;intro w' hK)
      |(with_reducible refine wpC_of ?_)
      |(with_reducible refine atEndC (hK.cls (by simp)) ?_)
      |((with_reducible refine wpC_end' ?_);refine wpC_nil ⟨by kernel_rfl,stays_loadSK rfl rfl rfl rfl (aggT (by decide)) (rest:=stays_nil),?_⟩)
      |(go_at_call 51;(refine (ref_cells (p:=u)).mono ?_;rintro e w' ⟨ad,rfl,hT⟩;replace hK:=hK.push1 hT;clear hT))
      |(go_at_call 47;(refine (hK.quiet (HA.out _ ad hK.rd)).mono ?_;clear hK;rintro e w' ⟨rfl,hK⟩))
      |go_big_skip
      |((with_reducible refine wl ?_);refine ld ?_)
      |(with_reducible refine en ?_))
    · go_ret
      have e:homeB c.p x=true:=by
       unfold homeB
       rw [List.any_eq_true]
       exact ⟨u,List.mem_of_getElem? HU.out,by rw [<-HN.out];exact decide_eq_true hp⟩
      exact ⟨by rw [e];rfl,hK.mod⟩
    · go_roundw
      case rel=>
       refine ⟨j+1,rfl,by go_num,by omega,?_,hK.sub (.cons _ (List.Sublist.refl _))⟩
       show ∀ p∈_,_
       rw [List.take_add_one,HU.out]
       simp only [Option.toList_some,List.mem_append,List.mem_singleton]
       rintro p (hp|rfl)
       · exact hno.out p hp
       · exact HN.out.symm
      case measure=>simp [intOf];omega
  · obtain rfl:j=c.robots.l.length:=by omega
    go_wp2_with (first
     |go_big_skip
     |((with_reducible refine wl ?_);refine ld ?_)
     |(with_reducible refine en ?_))
    go_ret
    have e:homeB c.p x=false:=by
     unfold homeB
     rw [List.any_eq_false]
     intro p hp
     have:=hno.out p (by rw [List.take_length];exact hp)
     simp [this]
    exact ⟨by rw [e];rfl,hK.mod⟩
set_option maxHeartbeats 1000000 in
theorem ref_fits {c:ConfV} {p:Pose} {w:World} (hc:Has w (rConf c)) (hz:Sized c):Calls Tryz.prog 50 #[.agg c.cells.toArray,.agg p.cells.toArray] w (Ret (.bool (fitsB c.p p)) w):=by
 have hK:=Know.start (L:=[rConf c]) w (by simpa using hc)
 have h1:=Lib.hid (fun (W:World) (h:Has W (rConf c))=>ref_open (x:=p.at_) h hz)
 have h2:=Lib.hid (fun (W:World) (h:Has W (rConf c))=>ref_open (x:=p.second) h hz)
 have HU0:=Lib.hid (show p.both[0]?=some p.at_ from rfl)
 have HU1:=Lib.hid (show p.both[1]?=some p.second from rfl)
 unfold fitsB
 generalize openB c.p p.at_=b1 at h1 ⊢
 generalize openB c.p p.second=b2 at h2 ⊢
 cases b1<;>cases b2
 all_goals
  go_enter Tryz.func50,Tryz.ntmps50
  go_wp2_with (first
   |((with_reducible refine wb 2 ?_)
     (refine wl_boxK hK rfl rfl rfl rfl ?_;clear hK;intro w2 b2 hK))
   |((with_reducible refine wb 3 ?_)
     (refine wl_boxK hK rfl rfl rfl rfl ?_;clear hK;intro w3 b3 hK))
   |(go_at_call 51;(refine (ref_cells (p:=p)).mono ?_;rintro e w' ⟨ad,rfl,hT⟩;replace hK:=hK.push1 hT;clear hT))
   |((with_reducible refine wt 10 ?_);(refine wl_ixK (i:=0) (u:=p.at_) hK rfl rfl rfl rfl cellTy.und cellTy.size (hu:=HU0) (h:=?_);intro b10 k10 hat10))
   |go_big_skip
   |((with_reducible refine wt 16 ?_);(refine wl_ixK (i:=1) (u:=p.second) hK rfl rfl rfl rfl cellTy.und cellTy.size (hu:=HU1) (h:=?_);intro b16 k16 hat16))
   |(go_at_call 44;first
      |(with_reducible refine (hK.quiet (h1.out _ (hK.has (by simp)))).mono ?_);clear hK;rintro e w' ⟨rfl,hK⟩
      |(with_reducible refine (hK.quiet (h2.out _ (hK.has (by simp)))).mono ?_);clear hK;rintro e w' ⟨rfl,hK⟩)
   |go_big_skip
   |((with_reducible refine wl ?_);refine ld ?_)
   |((with_reducible refine tx _ hK ?_);clear hK;intro w' hK)
   |(with_reducible refine en ?_))
  go_ret
  exact ⟨rfl,hK.mod⟩
end Go.Proofs.YtngeeilkpnihmaaGreatDoor
namespace Go.Proofs.YtngeeilkpnihmaaGreatDoor
open Go Go.Sk Go.RowKit
set_option maxRecDepth 100000
set_option maxHeartbeats 2000000 in
theorem ref_stacked {c:ConfV} {x:Cell} {w:World} (hc:Has w (rConf c)) (hz:Sized c):Calls Tryz.prog 73 #[.agg c.cells.toArray,.agg x.cells.toArray] w (Ret (.bool (stackedB c.p x)) w):=by
 have hK:=Know.start (L:=[rConf c]) w (by simpa using hc)
 have h1:=Lib.hid (fun (W:World) (h:Has W (rConf c))=>ref_open (x:=x) h hz)
 have h2:=Lib.hid (fun (W:World) (h:Has W (rConf c))=>ref_port (x:=x) h hz)
 have h3:=Lib.hid (fun (W:World) (h:Has W (rConf c))=>ref_home (x:=x) h hz)
 have h4:=Lib.hid (fun (W:World) (h:Has W (rConf c))=>ref_beside (x:=x) h hz)
 unfold stackedB
 generalize openB c.p x=b1 at h1 ⊢
 generalize portOf c.p x=n at h2 ⊢
 generalize homeB c.p x=b3 at h3 ⊢
 generalize besideB c.p x=b4 at h4 ⊢
 have hcs:b1=false\/(b1=true/\0<=n)\/(b1=true/\n<0/\b3=true)\/(b1=true/\n<0/\b3=false/\b4=false)\/(b1=true/\n<0/\b3=false/\b4=true):=by
  by_cases hn:n<0<;>cases b1<;>cases b3<;>cases b4<;>simp [hn]<;>omega
 rcases hcs with rfl|⟨rfl,hn⟩|⟨rfl,hn,rfl⟩|⟨rfl,hn,rfl,rfl⟩|⟨rfl,hn,rfl,rfl⟩
 all_goals
  try (first|rw [decide_eq_false (Int.not_lt.2 hn)]|rw [decide_eq_true hn])
  try (first|have hd:decide (n<0)=false:=decide_eq_false (Int.not_lt.2 hn)|have hd:decide (n<0)=true:=decide_eq_true hn)
  go_enter Tryz.func73,Tryz.ntmps73
  go_wp2_with (first
   |((with_reducible refine wb 2 ?_)
     (refine wl_boxK hK rfl rfl rfl rfl ?_;clear hK;intro w2 b2 hK))
   |((with_reducible refine wb 3 ?_)
     (refine wl_boxK hK rfl rfl rfl rfl ?_;clear hK;intro w3 b3 hK))
   |(go_at_call 44;(refine (hK.quiet (h1.out _ (hK.has (by simp)))).mono ?_;clear hK;rintro e w' ⟨rfl,hK⟩))
   |(go_at_call 95;(refine (hK.quiet (h2.out _ (hK.has (by simp)))).mono ?_;clear hK;rintro e w' ⟨rfl,hK⟩))
   |(go_at_call 48;(refine (hK.quiet (h3.out _ (hK.has (by simp)))).mono ?_;clear hK;rintro e w' ⟨rfl,hK⟩))
   |(go_at_call 49;(refine (hK.quiet (h4.out _ (hK.has (by simp)))).mono ?_;clear hK;rintro e w' ⟨rfl,hK⟩))
   |go_big_skip
   |((with_reducible refine wl ?_);refine ld ?_)
   |(with_reducible refine en ?_))
  go_ret
  exact ⟨rfl,hK.mod⟩
end Go.Proofs.YtngeeilkpnihmaaGreatDoor
namespace Go.Proofs.YtngeeilkpnihmaaGreatDoor
open Go Go.Sk Go.RowKit
set_option maxRecDepth 100000
set_option maxHeartbeats 400000 in
theorem ref_within (v a b:Int) (w:World):Calls Tryz.prog 72 #[.int .i64 v,.int .i64 a,.int .i64 b] w (Ret (.bool (within v a b)) w):=by
 have hcs:v<a\/(a<=v/\b<v)\/(a<=v/\v<=b):=by omega
 rcases hcs with h1|⟨h1,h2⟩|⟨h1,h2⟩
 all_goals
  go_enter Tryz.func72,Tryz.ntmps72
  go_wp2
  go_ret
  refine ⟨?_,Mod.refl _ _⟩
  first
   |(rw [show within v a b=true from Go.Sk.within_iff.2 (by omega)];first|rfl|exact congrArg (fun b=>Ending.returned (Value.bool b)) (decide_eq_true (by assumption)))
   |(rw [show within v a b=false from Bool.eq_false_iff.2 fun h=>absurd (Go.Sk.within_iff.1 h) (by omega)];first|rfl|exact congrArg (fun b=>Ending.returned (Value.bool b)) (decide_eq_false (Int.not_le.2 (by assumption))))
set_option maxHeartbeats 8000000 in
theorem ref_numbers {c:ConfV} {w:World}:Calls Tryz.prog 45 #[.agg c.cells.toArray] w (Ret (.bool (numsB c.p)) w):=by
 have hK:=Know.start (L:=[]) w (by simp)
 have h1:=Lib.hid (ref_within c.w 1 16)
 have h2:=Lib.hid (ref_within c.h 1 16)
 have h3:=Lib.hid (ref_within c.height 1 8)
 have h4:=Lib.hid (ref_within c.unit 1 1000)
 have h5:=Lib.hid (ref_within c.accel 1 1000)
 have h6:=Lib.hid (ref_within c.speed 1 1000)
 have h7:=Lib.hid (ref_within c.turn 1 1000)
 have h8:=Lib.hid (ref_within c.hoist 1 1000)
 have h9:=Lib.hid (ref_within c.resend 1 1000)
 have h10:=Lib.hid (ref_within c.queue 1 16)
 have h11:=Lib.hid (ref_within c.budget 1 1048576)
 have e:numsB c.p=(within c.w 1 16 && within c.h 1 16 && within c.height 1 8 && within c.unit 1 1000 && within c.accel 1 1000 && within c.speed 1 1000 && within c.turn 1 1000 && within c.hoist 1 1000 && within c.resend 1 1000 && within c.queue 1 16 && within c.budget 1 1048576):=rfl
 rw [e]
 clear e
 generalize within c.w 1 16=b1 at h1 ⊢
 generalize within c.h 1 16=b2 at h2 ⊢
 generalize within c.height 1 8=b3 at h3 ⊢
 generalize within c.unit 1 1000=b4 at h4 ⊢
 generalize within c.accel 1 1000=b5 at h5 ⊢
 generalize within c.speed 1 1000=b6 at h6 ⊢
 generalize within c.turn 1 1000=b7 at h7 ⊢
 generalize within c.hoist 1 1000=b8 at h8 ⊢
 generalize within c.resend 1 1000=b9 at h9 ⊢
 generalize within c.queue 1 16=b10 at h10 ⊢
 generalize within c.budget 1 1048576=b11 at h11 ⊢
 have hcs:b1=false\/(b1=true/\b2=false)\/(b1=true/\b2=true/\b3=false)\/(b1=true/\b2=true/\b3=true/\b4=false)\/(b1=true/\b2=true/\b3=true/\b4=true/\b5=false)
  \/(b1=true/\b2=true/\b3=true/\b4=true/\b5=true/\b6=false)\/(b1=true/\b2=true/\b3=true/\b4=true/\b5=true/\b6=true/\b7=false)
  \/(b1=true/\b2=true/\b3=true/\b4=true/\b5=true/\b6=true/\b7=true/\b8=false)\/(b1=true/\b2=true/\b3=true/\b4=true/\b5=true/\b6=true/\b7=true/\b8=true/\b9=false)
  \/(b1=true/\b2=true/\b3=true/\b4=true/\b5=true/\b6=true/\b7=true/\b8=true/\b9=true/\b10=false)
  \/(b1=true/\b2=true/\b3=true/\b4=true/\b5=true/\b6=true/\b7=true/\b8=true/\b9=true/\b10=true):=by
  cases b1<;>simp;cases b2<;>simp;cases b3<;>simp;cases b4<;>simp;cases b5<;>simp;cases b6<;>simp;cases b7<;>simp;cases b8<;>simp;cases b9<;>simp
 rcases hcs with rfl|⟨rfl,rfl⟩|⟨rfl,rfl,rfl⟩|⟨rfl,rfl,rfl,rfl⟩|⟨rfl,rfl,rfl,rfl,rfl⟩|⟨rfl,rfl,rfl,rfl,rfl,rfl⟩|⟨rfl,rfl,rfl,rfl,rfl,rfl,rfl⟩|⟨rfl,rfl,rfl,rfl,rfl,rfl,rfl,rfl⟩|⟨rfl,rfl,rfl,rfl,rfl,rfl,rfl,rfl,rfl⟩|⟨rfl,rfl,rfl,rfl,rfl,rfl,rfl,rfl,rfl,rfl⟩|⟨rfl,rfl,rfl,rfl,rfl,rfl,rfl,rfl,rfl,rfl⟩
 all_goals
  go_enter Tryz.func45,Tryz.ntmps45
  go_wp2_with (first
   |((with_reducible refine wb 1 ?_)
     (refine wl_boxK hK rfl rfl rfl rfl ?_;clear hK;intro w1 b1 hK))
   |(go_at_call 72;first
      |(with_reducible refine (hK.quiet (h1.out _)).mono ?_);clear hK;rintro e w' ⟨rfl,hK⟩
      |(with_reducible refine (hK.quiet (h2.out _)).mono ?_);clear hK;rintro e w' ⟨rfl,hK⟩
      |(with_reducible refine (hK.quiet (h3.out _)).mono ?_);clear hK;rintro e w' ⟨rfl,hK⟩
      |(with_reducible refine (hK.quiet (h4.out _)).mono ?_);clear hK;rintro e w' ⟨rfl,hK⟩
      |(with_reducible refine (hK.quiet (h5.out _)).mono ?_);clear hK;rintro e w' ⟨rfl,hK⟩
      |(with_reducible refine (hK.quiet (h6.out _)).mono ?_);clear hK;rintro e w' ⟨rfl,hK⟩
      |(with_reducible refine (hK.quiet (h7.out _)).mono ?_);clear hK;rintro e w' ⟨rfl,hK⟩
      |(with_reducible refine (hK.quiet (h8.out _)).mono ?_);clear hK;rintro e w' ⟨rfl,hK⟩
      |(with_reducible refine (hK.quiet (h9.out _)).mono ?_);clear hK;rintro e w' ⟨rfl,hK⟩
      |(with_reducible refine (hK.quiet (h10.out _)).mono ?_);clear hK;rintro e w' ⟨rfl,hK⟩
      |(with_reducible refine (hK.quiet (h11.out _)).mono ?_);clear hK;rintro e w' ⟨rfl,hK⟩)
   |go_big_skip
   |((with_reducible refine wl ?_);refine ld ?_)
   |(with_reducible refine en ?_))
  go_ret
  exact ⟨rfl,hK.mod⟩
end Go.Proofs.YtngeeilkpnihmaaGreatDoor
namespace Go.Proofs.YtngeeilkpnihmaaGreatDoor
open Go Go.Sk Go.RowKit
set_option maxRecDepth 100000
theorem stackTy:SliceTy Tryz.prog 24 85 elStack.sz 40 [.int .i64 0,.int .i64 0,.slice none 0 0]:=
 SliceTy.mk' (z:=.agg #[.int .i64 0,.int .i64 0,.slice none 0 0]) (by kernel_rfl) (by kernel_rfl) rfl rfl
def binsTo (c:ConfV) (j:Nat):List Int:=(c.stacks.l.take j).flatMap fun s=>s.bins.l
theorem binsTo_all (c:ConfV):binsTo c c.stacks.l.length=allBins c.p:=by
 unfold binsTo allBins
 rw [List.take_length]
 simp [ConfV.p,List.flatMap_map,StackV.p]
theorem binsTo_succ {c:ConfV} {j:Nat} {u:StackV} (h:c.stacks.l[j]?=some u):binsTo c (j+1)=binsTo c j++u.bins.l:=by
 unfold binsTo
 rw [List.take_add_one,h]
 simp
structure StkTo (c:ConfV) (j:Nat):Prop where
 ok: ∀ s∈c.stacks.l.take j,stackedB c.p s.at_=true/\(s.bins.l.length:Int)<=c.height
 apart:((c.stacks.l.take j).map (·.at_)).Nodup
theorem StkTo.le {c:ConfV} {j:Nat} (h:StkTo c j) (hc:Nums c.p) (hj:j<=c.stacks.l.length):j<=256:=by
 have:=cells_256 hc h.apart (by
  intro x hx
  obtain ⟨s,hs,rfl⟩:=List.mem_map.1 hx
  have:=(h.ok s hs).1
  unfold stackedB openB at this
  simp only [Bool.and_eq_true] at this
  exact this.1.1.1.1)
 simpa [Nat.min_eq_left hj] using this
theorem StkTo.len {c:ConfV} (hc:Nums c.p): ∀ {j:Nat},StkTo c j->j<=c.stacks.l.length->(binsTo c j).length<=j*8
 |0,_,_=>by simp [binsTo]
 |j+1,h,hj=>by
  obtain ⟨u,hu⟩: ∃ u,c.stacks.l[j]?=some u:=⟨_,List.getElem?_eq_getElem (by omega)⟩
  have h1:StkTo c j:=⟨fun s hs=>h.ok s (by rw [List.take_add_one];simp [hs]),by
   have:=h.apart
   rw [List.take_add_one,List.map_append,List.nodup_append] at this
   exact this.1⟩
  have h2:=StkTo.len hc h1 (by omega)
  have h3:=(h.ok u (by rw [List.take_add_one,hu];simp)).2
  have:=hc.height
  have h4:c.p.height=c.height:=rfl
  rw [binsTo_succ hu,List.length_append]
  omega
theorem StkTo.succ {c:ConfV} {j:Nat} {u:StackV} (h:StkTo c j) (hu:c.stacks.l[j]?=some u) (h1:stackedB c.p u.at_=true) (h2:(u.bins.l.length:Int)<=c.height)
 (h3: ∀ s∈c.stacks.l.take j,s.at_≠u.at_):StkTo c (j+1):=by
 refine ⟨fun s hs=>?_,?_⟩
 · rw [List.take_add_one,hu] at hs
   simp only [Option.toList_some,List.mem_append,List.mem_singleton] at hs
   rcases hs with hs|rfl
   · exact h.ok s hs
   · exact ⟨h1,h2⟩
 · rw [List.take_add_one,hu,List.map_append,List.nodup_append]
   refine ⟨h.apart,by simp,?_⟩
   intro a ha b hb
   obtain ⟨s,hs,rfl⟩:=List.mem_map.1 ha
   simp only [Option.toList_some,List.map_cons,List.map_nil,List.mem_singleton] at hb
   subst hb
   exact h3 s hs
theorem not_bins_stack {c:ConfV} {j:Nat} {u:StackV} (hu:c.stacks.l[j]?=some u) (h:stackedB c.p u.at_=false\/c.height<(u.bins.l.length:Int)):binsB c.p=false:=binsB_false fun hb=>by
 have hm:u.p∈c.p.stacks:=List.mem_map_of_mem (List.mem_of_getElem? hu)
 obtain ⟨h1,h2⟩:=hb.stacked _ hm
 rcases h with h|h
 · have:stackedB c.p u.p.at_=stackedB c.p u.at_:=rfl
   rw [this,h] at h1
   cases h1
 · have:(u.p.bins.length:Int)=u.bins.l.length:=rfl
   have:c.p.height=c.height:=rfl
   omega
theorem not_bins_twice {c:ConfV} {i j:Nat} {s u:StackV} (hs:c.stacks.l[i]?=some s) (hu:c.stacks.l[j]?=some u) (hij:i<j) (h:s.at_=u.at_):binsB c.p=false:=binsB_false fun hb=>by
 obtain ⟨hi,rfl⟩:=List.getElem?_eq_some_iff.1 hs
 obtain ⟨hj,rfl⟩:=List.getElem?_eq_some_iff.1 hu
 refine List.pairwise_iff_getElem.1 (List.nodup_iff_pairwise_ne.1 hb.stacks1) i j (by simp [ConfV.p];omega) (by simp [ConfV.p];omega) hij ?_
 simpa [ConfV.p,StackV.p] using h
structure BinTo (xs:List Int) (j:Nat):Prop where
 ok: ∀ b∈xs.take j,Go.Sk.within b 1 1000000000=true
 apart:(xs.take j).Nodup
theorem BinTo.succ {xs:List Int} {j:Nat} {u:Int} (h:BinTo xs j) (hu:xs[j]?=some u) (h1:Go.Sk.within u 1 1000000000=true) (h3: ∀ b∈xs.take j,b≠u):BinTo xs (j+1):=by
 refine ⟨fun s hs=>?_,?_⟩
 · rw [List.take_add_one,hu] at hs
   simp only [Option.toList_some,List.mem_append,List.mem_singleton] at hs
   rcases hs with hs|rfl
   · exact h.ok s hs
   · exact h1
 · rw [List.take_add_one,hu,List.nodup_append]
   refine ⟨h.apart,by simp,?_⟩
   intro a ha b hb
   simp only [Option.toList_some,List.mem_singleton] at hb
   subst hb
   exact h3 a ha
theorem not_bins_bin {c:ConfP} {u:Int} {j:Nat} (hu:(allBins c)[j]?=some u) (h:Go.Sk.within u 1 1000000000=false):binsB c=false:=binsB_false fun hb=>by
 rw [hb.bins u (List.mem_of_getElem? hu)] at h;cases h
theorem not_bins_bins {c:ConfP} {u:Int} {i j:Nat} (hi:(allBins c)[i]?=some u) (hj:(allBins c)[j]?=some u) (hij:i<j):binsB c=false:=binsB_false fun hb=>by
 obtain ⟨h1,e1⟩:=List.getElem?_eq_some_iff.1 hi
 obtain ⟨h2,e2⟩:=List.getElem?_eq_some_iff.1 hj
 exact List.pairwise_iff_getElem.1 (List.nodup_iff_pairwise_ne.1 hb.bins1) i j h1 h2 hij (e1.trans e2.symm)
set_option maxHeartbeats 4000000 in
theorem ref_bins {c:ConfV} {w:World} (hc:Has w (rConf c)) (hz:Sized c) (hn:Nums c.p):Calls Tryz.prog 52 #[.agg c.cells.toArray] w (Ret (.bool (binsB c.p)) w):=by
 have hK:=((Know.start (L:=[rConf c]) w (by simpa using hc)).conf (c:=c) (by simp)).subL (L':=[rRd elStack c.stacks.val c.stacks.l,rStacks c.stacks,rConf c]) (by simp)
 have hb:=hz.stacks
 have hst:=Lib.hid (fun (W:World) (x:Cell) (h:Has W (rConf c))=>ref_stacked (x:=x) h hz)
 have hwi:=Lib.hid ref_within
 go_enter Tryz.func52,Tryz.ntmps52
 go_wp2_with (first
  |((with_reducible refine wb 1 ?_)
    (refine wl_boxK hK rfl rfl rfl rfl ?_;clear hK;intro w1 b1 hK))
  |go_big_skip
  |((with_reducible refine wl ?_);refine ld ?_)
  |(with_reducible refine en ?_))
 go_loopw [4,3,2] (fun i all r wr=> ∃ (j:Nat) (ad:Option Addr) (N cap:Nat),i=.int .i64 j/\all=.slice ad N cap/\r=.bool false/\j<=c.stacks.l.length/\N<=2056/\Hid (N=(binsTo c j).length)/\Hid (StkTo c j)/\Know w wr none' [rOw 3 elInt (.slice ad N cap) (binsTo c j),rBlk b1 c.cells 26] [rRd elStack c.stacks.val c.stacks.l,rStacks c.stacks,rConf c]) (fun i _ _ _=>c.stacks.l.length - (intOf i).toNat)
 case atStart=>exact ⟨0,_,_,_,rfl,rfl,rfl,Nat.zero_le _,by omega,rfl,⟨by simp,by simp⟩,hK.nil _ _⟩
 case round=>
  obtain ⟨j,ad,N,cap,rfl,rfl,rfl,hj,hN2,hN,hS,hK⟩:=hrel
  have hj256:=hS.out.le hn hj
  by_cases hlt:j<c.stacks.l.length
  · obtain ⟨u,hu⟩: ∃ u,c.stacks.l[j]?=some u:=⟨_,List.getElem?_eq_getElem hlt⟩
    have HU:=Lib.hid hu
    have hub:=hz.bins u (List.mem_of_getElem? hu)
    clear hu
    have hs1:=Lib.hid (fun (W:World) (h:Has W (rConf c))=>hst.out W u.at_ h)
    obtain ⟨bs,hbs⟩: ∃ bs,bs=stackedB c.p u.at_:=⟨_,rfl⟩
    rw [<-hbs] at hs1
    have HB:=Lib.hid hbs
    clear hbs
    have hcs:bs=false\/(bs=true/\c.height<(u.bins.l.length:Int))\/(bs=true/\(u.bins.l.length:Int)<=c.height):=by
     cases bs
     · exact .inl rfl
     · right;by_cases h:c.height<(u.bins.l.length:Int)
       · exact .inl ⟨rfl,h⟩
       · exact .inr ⟨rfl,by omega⟩
    have hd:decide ((256:Int)<(j:Int))=false:=decide_eq_false (by omega)
    rcases hcs with rfl|⟨rfl,hh⟩|⟨rfl,hh⟩
    all_goals
     go_wp2_with (first
      |((with_reducible refine wt 22 ?_)
        (refine wl_ixK hK rfl rfl rfl rfl stackTy.und stackTy.size (h:=?_);intro b22 k22 hat22))
      |((with_reducible refine wt 32 ?_)
        (refine wl_ixK hK rfl rfl rfl rfl stackTy.und stackTy.size (h:=?_);intro b32 k32 hat32))
      |((with_reducible refine wt 24 ?_)
        (refine wl_loadP0 (Cell.cells (u.at_)) rfl rfl rfl (aggT (by decide)) (h:=?_)))
      |(go_at_call 73;(refine (hK.quiet (hs1.out _ (hK.has (by simp)))).mono ?_;clear hK;rintro e w' ⟨rfl,hK⟩))
      |((with_reducible refine tx 5 hK ?_);clear hK;intro w' hK)
      |go_big_skip
      |((with_reducible refine wl ?_);refine ld ?_)
      |(with_reducible refine en ?_))
    · go_ret
      exact ⟨by rw [not_bins_stack HU.out (.inl HB.out.symm)];rfl,hK.mod⟩
    · go_ret
      exact ⟨by rw [not_bins_stack HU.out (.inr hh)];rfl,hK.mod⟩
    · have hd0:(0:Int)<=(j:Int):=by omega
      go_loopw [5,2] (fun k r wr=> ∃ m:Nat,k=.int .i64 m/\r=.bool false/\m<=j/\Hid (∀ i s,i<m->c.stacks.l[i]?=some s->s.at_≠u.at_)/\Know w wr none' [rOw 3 elInt (.slice ad N cap) (binsTo c j),rBlk b1 c.cells 26] [rRd elStack c.stacks.val c.stacks.l,rStacks c.stacks,rConf c]) (fun k _ _=>j - (intOf k).toNat)
      case atStart=>exact ⟨0,rfl,rfl,Nat.zero_le _,fun i s hi _=>by omega,hK⟩
      case round=>
       obtain ⟨m,rfl,rfl,hm,hno,hK⟩:=hrel
       by_cases hmj:m<j
       · obtain ⟨s,hs⟩: ∃ s,c.stacks.l[m]?=some s:=⟨_,List.getElem?_eq_getElem (by omega)⟩
         have HS:=Lib.hid hs
         clear hs
         have hm63:m<=9223372036854775806:=by omega
         by_cases hux:s.at_=u.at_
         all_goals
          first|have hd2:decide (s.at_=u.at_)=true:=decide_eq_true hux|have hd2:decide (s.at_=u.at_)=false:=decide_eq_false hux
          have HX:=Lib.hid hux
          clear hux
          go_wp2_with (first
           |((with_reducible refine wt 48 ?_);(refine wl_ixK (u:=s) hK rfl rfl rfl rfl stackTy.und stackTy.size (hu:=HS) (h:=?_);intro b48 k48 hat48))
           |((with_reducible refine wt 54 ?_);(refine wl_ixK (u:=u) hK rfl rfl rfl rfl stackTy.und stackTy.size (hu:=HU) (h:=?_);intro b54 k54 hat54))
           |((with_reducible refine wt 50 ?_)
             (refine wl_loadP0 (Cell.cells (s.at_)) rfl rfl rfl (aggT (by decide)) (h:=?_)))
           |((with_reducible refine wt 56 ?_)
             (refine wl_loadP0 (Cell.cells (u.at_)) rfl rfl rfl (aggT (by decide)) (h:=?_)))
           |((with_reducible refine wl_at (o:=⟨_,.binOp .eql 34 _ _ _,_,_,_,_⟩) ?_)
             (refine wl_eqlC cellEq rfl rfl rfl rfl ?_))
           |((with_reducible refine wl_at (o:=⟨_,.binOp .neq 34 _ _ _,_,_,_,_⟩) ?_)
             (refine wl_neqC cellEq rfl rfl rfl rfl ?_))
           |((with_reducible refine tx 10 hK ?_);clear hK;intro w' hK)
           |go_big_skip
           |((with_reducible refine wl ?_);refine ld ?_)
           |(with_reducible refine en ?_))
         · go_ret
           exact ⟨by rw [not_bins_twice HS.out HU.out hmj HX.out];rfl,hK.mod⟩
         · go_roundw
           case rel=>
            refine ⟨m+1,by go_num,rfl,by omega,?_,hK⟩
            intro i t hi ht
            by_cases e:i=m
            · subst e
              rw [HS.out] at ht
              injection ht with ht
              subst ht
              exact HX.out
            · exact hno.out i t (by omega) ht
           case measure=>simp [intOf];omega
       · obtain rfl:m=j:=by omega
         have hlen:=Lib.hid (StkTo.len hn hS.out hj)
         have hS2:Hid (StkTo c (m+1)):=hS.out.succ HU.out HB.out.symm hh fun s hs=>by
          obtain ⟨i,hi⟩:=List.getElem?_of_mem hs
          rw [List.getElem?_take] at hi
          split at hi
          · exact hno.out i s (by assumption) hi
          · cases hi
         have hlen2:=StkTo.len hn hS2.out (by omega)
         have hbl:=Lib.hid (binsTo_succ HU.out)
         have hbu:(binsTo c m).length+u.bins.l.length<=2056:=by
          rw [hbl.out,List.length_append] at hlen2
          omega
         clear hlen2
         go_wp2_with (first
          |((with_reducible refine wt 62 ?_);(refine wl_ixK (u:=u) hK rfl rfl rfl rfl stackTy.und stackTy.size (hu:=HU) (h:=?_);intro b62 k62 hat62))
          |((with_reducible refine wt 65 ?_)
            (refine wl_appK (xs:=binsTo c m) (ys:=u.bins.l) hK intTy rfl rfl rfl rfl (Has.bins (hK.has (by simp)) u (List.mem_of_getElem? HU.out)) (by unfold maxLen;omega) (by omega) (h:=?_);clear hK;intro ad2 N2 cap2 w2 hN2 hK;replace hN2:=Lib.hid hN2;simp only [z0,z1] at hK))
          |go_big_skip
          |((with_reducible refine wl ?_);refine ld ?_)
          |(with_reducible refine en ?_))
         go_roundw
         case rel=>
          have e2:N2=(binsTo c (m+1)).length:=by rw [hN2.out,hbl.out]
          rw [<-hbl.out] at hK
          exact ⟨m+1,ad2,N2,cap2,by go_num,rfl,rfl,by omega,by rw [hN2.out,List.length_append];exact hbu,e2,hS2,hK⟩
         case measure=>simp [intOf];omega
  · obtain rfl:j=c.stacks.l.length:=by omega
    obtain ⟨xs,hxs⟩: ∃ xs,xs=binsTo c c.stacks.l.length:=⟨_,rfl⟩
    have hall:=Lib.hid (hxs.trans (binsTo_all c))
    rw [<-hxs] at hK hN
    clear hxs
    have hNx:=hN.out
    subst hNx
    have hlen:xs.length<=9223372036854775807:=by omega
    by_cases h512:512<xs.length
    · have hd:decide ((512:Int)<(xs.length:Int))=true:=decide_eq_true (by omega)
      go_wp2_with (first
       |go_big_skip
       |((with_reducible refine wl ?_);refine ld ?_)
       |(with_reducible refine en ?_))
      go_ret
      have e:binsB c.p=false:=binsB_false fun hb=>by have:=hb.bins512;rw [<-hall.out] at this;omega
      exact ⟨by rw [e];rfl,hK.mod⟩
    · have hd:decide ((512:Int)<(xs.length:Int))=false:=decide_eq_false (by omega)
      go_wp2_with (first
       |go_big_skip
       |((with_reducible refine wl ?_);refine ld ?_)
       |(with_reducible refine en ?_))
      go_loopw [6,2] (fun i r wr=> ∃ j:Nat,i=.int .i64 j/\r=.bool false/\j<=xs.length/\Hid (BinTo xs j)/\Know w wr none' [rOw 3 elInt (.slice ad xs.length cap) xs,rBlk b1 c.cells 26] [rRd elStack c.stacks.val c.stacks.l,rStacks c.stacks,rConf c]) (fun i _ _=>xs.length - (intOf i).toNat)
      case atStart=>exact ⟨0,rfl,rfl,Nat.zero_le _,⟨by simp,by simp⟩,hK⟩
      case round=>
       obtain ⟨j,rfl,rfl,hj,hB,hK⟩:=hrel
       by_cases hlt:j<xs.length
       · obtain ⟨u,hu⟩: ∃ u,xs[j]?=some u:=⟨_,List.getElem?_eq_getElem hlt⟩
         have HU:=Lib.hid hu
         clear hu
         have hw1:=Lib.hid (hwi.out u 1 1000000000)
         obtain ⟨bs,hbs⟩: ∃ bs,bs=Go.Sk.within u 1 1000000000:=⟨_,rfl⟩
         rw [<-hbs] at hw1
         have HB:=Lib.hid hbs
         clear hbs
         cases bs
         all_goals
          go_wp2_with (first
           |((with_reducible refine wt 77 ?_)
             (refine wl_ixK hK rfl rfl rfl rfl intTy.und intTy.size (h:=?_);intro b77 k77 hat77))
           |(go_at_call 72;(refine (hK.quiet (hw1.out _)).mono ?_;clear hK;rintro e w' ⟨rfl,hK⟩))
           |go_big_skip
           |((with_reducible refine wl ?_);refine ld ?_)
           |(with_reducible refine en ?_))
         · go_ret
           exact ⟨by rw [not_bins_bin (by rw [<-hall.out];exact HU.out) HB.out.symm];rfl,hK.mod⟩
         · go_loopw [7,2] (fun k r wr=> ∃ m:Nat,k=.int .i64 m/\r=.bool false/\m<=j/\Hid (∀ i s,i<m->xs[i]?=some s->s≠u)/\Know w wr none' [rOw 3 elInt (.slice ad xs.length cap) xs,rBlk b1 c.cells 26] [rRd elStack c.stacks.val c.stacks.l,rStacks c.stacks,rConf c]) (fun k _ _=>j - (intOf k).toNat)
           case atStart=>exact ⟨0,rfl,rfl,Nat.zero_le _,fun i s hi _=>by omega,hK⟩
           case round=>
            obtain ⟨m,rfl,rfl,hm,hno,hK⟩:=hrel
            by_cases hmj:m<j
            · obtain ⟨s,hs⟩: ∃ s,xs[m]?=some s:=⟨_,List.getElem?_eq_getElem (by omega)⟩
              have HS:=Lib.hid hs
              clear hs
              have hm63:m<=9223372036854775806:=by omega
              by_cases hux:s=u
              all_goals
               first|have hd2:(s == u)=true:=beq_iff_eq.2 hux|have hd2:(s == u)=false:=beq_eq_false_iff_ne.2 hux
               have HX:=Lib.hid hux
               clear hux
               go_wp2_with (first
                |((with_reducible refine wt 88 ?_);(refine wl_ixK (u:=s) hK rfl rfl rfl rfl intTy.und intTy.size (hu:=HS) (h:=?_);intro b88 k88 hat88))
                |((with_reducible refine wt 92 ?_);(refine wl_ixK (u:=u) hK rfl rfl rfl rfl intTy.und intTy.size (hu:=HU) (h:=?_);intro b92 k92 hat92))
                |((with_reducible refine tx 23 hK ?_);clear hK;intro w' hK)
                |go_big_skip
                |((with_reducible refine wl ?_);refine ld ?_)
                |(with_reducible refine en ?_))
              · go_ret
                have e:binsB c.p=false:=by
                 have h1:=HS.out
                 rw [HX.out] at h1
                 exact not_bins_bins (by rw [<-hall.out];exact h1) (by rw [<-hall.out];exact HU.out) hmj
                exact ⟨by rw [e];rfl,hK.mod⟩
              · go_roundw
                case rel=>
                 refine ⟨m+1,by go_num,rfl,by omega,?_,hK⟩
                 intro i t hi ht
                 by_cases e:i=m
                 · subst e
                   rw [HS.out] at ht
                   injection ht with ht
                   subst ht
                   exact HX.out
                 · exact hno.out i t (by omega) ht
                case measure=>simp [intOf];omega
            · obtain rfl:m=j:=by omega
              have hB2:Hid (BinTo xs (m+1)):=hB.out.succ HU.out HB.out.symm fun s hs=>by
               obtain ⟨i,hi⟩:=List.getElem?_of_mem hs
               rw [List.getElem?_take] at hi
               split at hi
               · exact hno.out i s (by assumption) hi
               · cases hi
              go_wp2_with (first
               |go_big_skip
               |((with_reducible refine wl ?_);refine ld ?_)
               |(with_reducible refine en ?_))
              go_roundw
              case rel=>exact ⟨m+1,by go_num,rfl,by omega,hB2,hK⟩
              case measure=>simp [intOf];omega
       · obtain rfl:j=xs.length:=by omega
         go_wp2_with (first
          |go_big_skip
          |((with_reducible refine wl ?_);refine ld ?_)
          |(with_reducible refine en ?_))
         go_ret
         have e:binsB c.p=true:=by
          have hs:=hS.out
          have hb:=hB.out
          refine binsB_true.2 ⟨?_,?_,?_,?_,?_⟩
          · intro s hs'
            obtain ⟨t,ht,rfl⟩:=List.mem_map.1 hs'
            exact hs.ok t (by rw [List.take_length];exact ht)
          · have:=hs.apart
            rw [List.take_length] at this
            rw [show c.p.stacks.map (·.at_)=c.stacks.l.map (·.at_) by simp only [ConfV.p,List.map_map];rfl]
            exact this
          · intro b hb'
            exact hb.ok b (by rw [List.take_length,hall.out];exact hb')
          · have:=hb.apart
            rw [List.take_length,hall.out] at this
            exact this
          · rw [<-hall.out];omega
         exact ⟨by rw [e];rfl,hK.mod⟩
end Go.Proofs.YtngeeilkpnihmaaGreatDoor
namespace Go.Proofs.YtngeeilkpnihmaaGreatDoor
open Go Go.Sk Go.RowKit
set_option maxRecDepth 100000
def homesTo (c:ConfV) (j:Nat):List Cell:=(c.robots.l.take j).flatMap Pose.both
theorem homesTo_all (c:ConfV):homesTo c c.robots.l.length=homes c.p:=by
 unfold homesTo homes
 rw [List.take_length]
 rfl
theorem homesTo_succ {c:ConfV} {j:Nat} {u:Pose} (h:c.robots.l[j]?=some u):homesTo c (j+1)=homesTo c j++u.both:=by
 unfold homesTo
 rw [List.take_add_one,h]
 simp
theorem homesTo_len (c:ConfV): ∀ j,(homesTo c j).length<=j*2
 |0=>by simp [homesTo]
 |j+1=>by
  have ih:=homesTo_len c j
  cases h:c.robots.l[j]? with
  |some u=>rw [homesTo_succ h,List.length_append];simp [Pose.both];omega
  |none=>
   have:homesTo c (j+1)=homesTo c j:=by unfold homesTo;rw [List.take_add_one,h];simp
   rw [this];omega
theorem upto_succ {α:Type} {l:List α} {j:Nat} {u:α} {p:α->Prop} (h: ∀ x∈l.take j,p x) (hu:l[j]?=some u) (h1:p u): ∀ x∈l.take (j+1),p x:=by
 intro x hx
 rw [List.take_add_one,hu] at hx
 simp only [Option.toList_some,List.mem_append,List.mem_singleton] at hx
 rcases hx with hx|rfl
 · exact h x hx
 · exact h1
theorem upto_all {α:Type} {l:List α} {p:α->Prop} (h: ∀ x∈l.take l.length,p x): ∀ x∈l,p x:=by rw [List.take_length] at h;exact h
set_option maxHeartbeats 8000000 in
theorem ref_may {c:ConfV} {w:World} (hc:Has w (rConf c)) (hz:Sized c):Calls Tryz.prog 25 #[.agg c.cells.toArray] w (Ret (.bool (mayB c.p)) w):=by
 have hK:=((Know.start (L:=[rConf c]) w (by simpa using hc)).conf (c:=c) (by simp)).subL (L':=[rRd elCell c.blocked.val c.blocked.l,rRd elCell c.ports.val c.ports.l,rRd elPose c.robots.val c.robots.l,rConf c]) (by simp)
 have hb1:=hz.blocked
 have hb2:=hz.ports
 have hb3:=hz.robots
 have hnu:=Lib.hid (fun (W:World)=>ref_numbers (c:=c) (w:=W))
 obtain ⟨b0,hb0⟩: ∃ b0,b0=numsB c.p:=⟨_,rfl⟩
 rw [<-hb0] at hnu
 have HN:=Lib.hid hb0
 clear hb0
 have hin:=Lib.hid (fun (W:World) (x:Cell)=>ref_in (c:=c) (x:=x) (w:=W))
 have ham:=Lib.hid (fun (W:World) (s:Sv Cell) (x:Cell) (h:Rd W elCell s.val s.l) (hl:s.l.length<=9223372036854775807)=>ref_among (x:=x) h hl)
 have hho:=Lib.hid (fun (W:World) (x:Cell) (h:Has W (rConf c))=>ref_home (x:=x) h hz)
 have hbe:=Lib.hid (fun (W:World) (x:Cell) (h:Has W (rConf c))=>ref_beside (x:=x) h hz)
 have hfi:=Lib.hid (fun (W:World) (p:Pose) (h:Has W (rConf c))=>ref_fits (p:=p) h hz)
 have hcs:b0=false\/(b0=true/\8<c.ports.l.length)\/(b0=true/\c.ports.l.length<=8/\8<c.robots.l.length)\/(b0=true/\c.ports.l.length<=8/\c.robots.l.length<=8/\256<c.blocked.l.length)\/(b0=true/\c.ports.l.length<=8/\c.robots.l.length<=8/\c.blocked.l.length<=256):=by
  cases b0<;>simp;omega
 rcases hcs with rfl|⟨rfl,h1⟩|⟨rfl,h1,h2⟩|⟨rfl,h1,h2,h3⟩|⟨rfl,h1,h2,h3⟩
 all_goals
  try (first|have hd1:decide ((8:Int)<(c.ports.l.length:Int))=true:=decide_eq_true (by omega)|have hd1:decide ((8:Int)<(c.ports.l.length:Int))=false:=decide_eq_false (by omega))
  try (first|have hd2:decide ((8:Int)<(c.robots.l.length:Int))=true:=decide_eq_true (by omega)|have hd2:decide ((8:Int)<(c.robots.l.length:Int))=false:=decide_eq_false (by omega))
  try (first|have hd3:decide ((256:Int)<(c.blocked.l.length:Int))=true:=decide_eq_true (by omega)|have hd3:decide ((256:Int)<(c.blocked.l.length:Int))=false:=decide_eq_false (by omega))
  go_enter Tryz.func25,Tryz.ntmps25
  go_wp2_with (first
   |((with_reducible refine wb 1 ?_)
     (refine wl_boxK hK rfl rfl rfl rfl ?_;clear hK;intro w1 b1 hK))
   |(go_at_call 45;(refine (hK.quiet (hnu.out _)).mono ?_;clear hK;rintro e w' ⟨rfl,hK⟩))
   |go_big_skip
   |((with_reducible refine wl ?_);refine ld ?_)
   |(with_reducible refine en ?_))
 · go_ret
   exact ⟨by rw [mayB_not fun h=>by have:=HN.out.trans h.nums;cases this];rfl,hK.mod⟩
 · go_ret
   exact ⟨by rw [mayB_not fun h=>by have:c.ports.l.length<=8:=h.ports8;omega];rfl,hK.mod⟩
 · go_ret
   exact ⟨by rw [mayB_not fun h=>by have:c.robots.l.length<=8:=h.robots8;omega];rfl,hK.mod⟩
 · go_ret
   exact ⟨by rw [mayB_not fun h=>by have:c.blocked.l.length<=256:=h.blocked256;omega];rfl,hK.mod⟩
 have hnums:Hid (Nums c.p):=nums_iff.1 HN.out.symm
 clear hd1 hd2 hd3
 go_loopw [3,2] (fun i r wr=> ∃ j:Nat,i=.int .i64 j/\r=.bool false/\j<=c.blocked.l.length/\Hid (∀ x∈c.blocked.l.take j,inB c.p x=true/\c.blocked.l.count x<=1/\c.ports.l.count x=0)/\Know w wr none' [rBlk b1 c.cells 26] [rRd elCell c.blocked.val c.blocked.l,rRd elCell c.ports.val c.ports.l,rRd elPose c.robots.val c.robots.l,rConf c]) (fun i _ _=>c.blocked.l.length - (intOf i).toNat)
 case atStart=>exact ⟨0,rfl,rfl,Nat.zero_le _,by show ∀ x∈_,_;simp,hK⟩
 case round=>
  obtain ⟨j,rfl,rfl,hj,hA,hK⟩:=hrel
  by_cases hlt:j<c.blocked.l.length
  · obtain ⟨u,hu⟩: ∃ u,c.blocked.l[j]?=some u:=⟨_,List.getElem?_eq_getElem hlt⟩
    have HU:=Lib.hid hu
    have HM:=Lib.hid (show u∈c.p.blocked from List.mem_of_getElem? hu)
    clear hu
    have k1:=Lib.hid (fun (W:World)=>hin.out W u)
    have k2:=Lib.hid (fun (W:World) h=>ham.out W c.blocked u h hb1)
    have k3:=Lib.hid (fun (W:World) h=>ham.out W c.ports u h hb2)
    obtain ⟨q1,hq1⟩: ∃ q,q=inB c.p u:=⟨_,rfl⟩
    obtain ⟨q2,hq2⟩: ∃ q,q=c.blocked.l.count u:=⟨_,rfl⟩
    obtain ⟨q3,hq3⟩: ∃ q,q=c.ports.l.count u:=⟨_,rfl⟩
    rw [<-hq1] at k1
    rw [<-hq2] at k2
    rw [<-hq3] at k3
    have Q1:=Lib.hid hq1
    have Q2:=Lib.hid hq2
    have Q3:=Lib.hid hq3
    clear hq1 hq2 hq3
    have hcs:q1=false\/(q1=true/\1<q2)\/(q1=true/\q2<=1/\0<q3)\/(q1=true/\q2<=1/\q3<=0):=by
     cases q1<;>simp;omega
    rcases hcs with rfl|⟨rfl,g1⟩|⟨rfl,g1,g2⟩|⟨rfl,g1,g2⟩
    all_goals
     try (first|have e1:decide ((1:Int)<(q2:Int))=true:=decide_eq_true (by omega)|have e1:decide ((1:Int)<(q2:Int))=false:=decide_eq_false (by omega))
     try (first|have e2:decide ((0:Int)<(q3:Int))=true:=decide_eq_true (by omega)|have e2:decide ((0:Int)<(q3:Int))=false:=decide_eq_false (by omega))
     try (first|have e3:decide (0<q3)=true:=decide_eq_true (by omega)|have e3:decide (0<q3)=false:=decide_eq_false (by omega))
     go_wp2_with (first
      |((with_reducible refine wt 40 ?_);(refine wl_ixK (u:=u) hK rfl rfl rfl rfl cellTy.und cellTy.size (hu:=HU) (h:=?_);intro b40 k40 hat40))
      |(go_at_call 46;(refine (hK.quiet (k1.out _)).mono ?_;clear hK;rintro e w' ⟨rfl,hK⟩))
      |go_big_skip
      |((with_reducible refine wt 50 ?_);(refine wl_ixK (u:=u) hK rfl rfl rfl rfl cellTy.und cellTy.size (hu:=HU) (h:=?_);intro b50 k50 hat50))
      |((with_reducible refine wt 61 ?_);(refine wl_ixK (u:=u) hK rfl rfl rfl rfl cellTy.und cellTy.size (hu:=HU) (h:=?_);intro b61 k61 hat61))
      |(go_at_call 47;first
         |(with_reducible refine (hK.quiet (k2.out _ hK.rd)).mono ?_);clear hK;rintro e w' ⟨rfl,hK⟩
         |(with_reducible refine (hK.quiet (k3.out _ hK.rd)).mono ?_);clear hK;rintro e w' ⟨rfl,hK⟩)
      |((with_reducible refine tx 6 hK ?_);clear hK;intro w' hK)
      |go_big_skip
      |((with_reducible refine wl ?_);refine ld ?_)
      |(with_reducible refine en ?_))
    · go_ret
      exact ⟨by rw [mayB_not fun h=>by have:=(h.of.1 u HM.out).1;rw [<-Q1.out] at this;cases this];rfl,hK.mod⟩
    · go_ret
      exact ⟨by rw [mayB_not fun h=>by have:c.blocked.l.count u<=1:=(h.of.1 u HM.out).2.1;rw [<-Q2.out] at this;omega];rfl,hK.mod⟩
    · go_ret
      exact ⟨by rw [mayB_not fun h=>by have:c.ports.l.count u=0:=(h.of.1 u HM.out).2.2;rw [<-Q3.out] at this;omega];rfl,hK.mod⟩
    · go_roundw
      case rel=>exact ⟨j+1,by go_num,rfl,by omega,upto_succ hA.out HU.out ⟨Q1.out.symm,by rw [<-Q2.out];exact g1,by rw [<-Q3.out];omega⟩,hK⟩
      case measure=>simp [intOf];omega
  · obtain rfl:j=c.blocked.l.length:=by omega
    go_wp2_with (first
     |go_big_skip
     |((with_reducible refine wl ?_);refine ld ?_)
     |(with_reducible refine en ?_))
    go_loopw [4,2] (fun i r wr=> ∃ j:Nat,i=.int .i64 j/\r=.bool false/\j<=c.ports.l.length/\Hid (∀ x∈c.ports.l.take j,inB c.p x=true/\c.ports.l.count x<=1/\homeB c.p x=false/\besideB c.p x=true)/\Know w wr none' [rBlk b1 c.cells 26] [rRd elCell c.blocked.val c.blocked.l,rRd elCell c.ports.val c.ports.l,rRd elPose c.robots.val c.robots.l,rConf c]) (fun i _ _=>c.ports.l.length - (intOf i).toNat)
    case atStart=>exact ⟨0,rfl,rfl,Nat.zero_le _,by show ∀ x∈_,_;simp,hK⟩
    case round=>
     obtain ⟨j,rfl,rfl,hj,hP,hK⟩:=hrel
     by_cases hlt:j<c.ports.l.length
     · obtain ⟨u,hu⟩: ∃ u,c.ports.l[j]?=some u:=⟨_,List.getElem?_eq_getElem hlt⟩
       have HU:=Lib.hid hu
       have HM:=Lib.hid (show u∈c.p.ports from List.mem_of_getElem? hu)
       clear hu
       have k1:=Lib.hid (fun (W:World)=>hin.out W u)
       have k2:=Lib.hid (fun (W:World) h=>ham.out W c.ports u h hb2)
       have k3:=Lib.hid (fun (W:World) h=>hho.out W u h)
       have k4:=Lib.hid (fun (W:World) h=>hbe.out W u h)
       obtain ⟨q1,hq1⟩: ∃ q,q=inB c.p u:=⟨_,rfl⟩
       obtain ⟨q2,hq2⟩: ∃ q,q=c.ports.l.count u:=⟨_,rfl⟩
       obtain ⟨q3,hq3⟩: ∃ q,q=homeB c.p u:=⟨_,rfl⟩
       obtain ⟨q4,hq4⟩: ∃ q,q=besideB c.p u:=⟨_,rfl⟩
       rw [<-hq1] at k1
       rw [<-hq2] at k2
       rw [<-hq3] at k3
       rw [<-hq4] at k4
       have Q1:=Lib.hid hq1
       have Q2:=Lib.hid hq2
       have Q3:=Lib.hid hq3
       have Q4:=Lib.hid hq4
       clear hq1 hq2 hq3 hq4
       have hcs:q1=false\/(q1=true/\1<q2)\/(q1=true/\q2<=1/\q3=true)\/(q1=true/\q2<=1/\q3=false/\q4=false)\/(q1=true/\q2<=1/\q3=false/\q4=true):=by
        cases q1<;>cases q3<;>cases q4<;>simp<;>omega
       rcases hcs with rfl|⟨rfl,g1⟩|⟨rfl,g1,rfl⟩|⟨rfl,g1,rfl,rfl⟩|⟨rfl,g1,rfl,rfl⟩
       all_goals
        try (first|have e1:decide ((1:Int)<(q2:Int))=true:=decide_eq_true (by omega)|have e1:decide ((1:Int)<(q2:Int))=false:=decide_eq_false (by omega))
        go_wp2_with (first
         |((with_reducible refine wt 77 ?_);(refine wl_ixK (u:=u) hK rfl rfl rfl rfl cellTy.und cellTy.size (hu:=HU) (h:=?_);intro b77 k77 hat77))
         |(go_at_call 46;(refine (hK.quiet (k1.out _)).mono ?_;clear hK;rintro e w' ⟨rfl,hK⟩))
         |go_big_skip
         |((with_reducible refine wt 87 ?_);(refine wl_ixK (u:=u) hK rfl rfl rfl rfl cellTy.und cellTy.size (hu:=HU) (h:=?_);intro b87 k87 hat87))
         |((with_reducible refine wt 97 ?_);(refine wl_ixK (u:=u) hK rfl rfl rfl rfl cellTy.und cellTy.size (hu:=HU) (h:=?_);intro b97 k97 hat97))
         |((with_reducible refine wt 106 ?_);(refine wl_ixK (u:=u) hK rfl rfl rfl rfl cellTy.und cellTy.size (hu:=HU) (h:=?_);intro b106 k106 hat106))
         |(go_at_call 47;(refine (hK.quiet (k2.out _ hK.rd)).mono ?_;clear hK;rintro e w' ⟨rfl,hK⟩))
         |(go_at_call 48;(refine (hK.quiet (k3.out _ (hK.has (by simp)))).mono ?_;clear hK;rintro e w' ⟨rfl,hK⟩))
         |(go_at_call 49;(refine (hK.quiet (k4.out _ (hK.has (by simp)))).mono ?_;clear hK;rintro e w' ⟨rfl,hK⟩))
         |((with_reducible refine tx 11 hK ?_);clear hK;intro w' hK)
         |go_big_skip
         |((with_reducible refine wl ?_);refine ld ?_)
         |(with_reducible refine en ?_))
       · go_ret
         exact ⟨by rw [mayB_not fun h=>by have:=(h.of.2.1 u HM.out).1;rw [<-Q1.out] at this;cases this];rfl,hK.mod⟩
       · go_ret
         exact ⟨by rw [mayB_not fun h=>by have:c.ports.l.count u<=1:=(h.of.2.1 u HM.out).2.1;rw [<-Q2.out] at this;omega];rfl,hK.mod⟩
       · go_ret
         exact ⟨by rw [mayB_not fun h=>by have:=(h.of.2.1 u HM.out).2.2.1;rw [<-Q3.out] at this;cases this];rfl,hK.mod⟩
       · go_ret
         exact ⟨by rw [mayB_not fun h=>by have:=(h.of.2.1 u HM.out).2.2.2;rw [<-Q4.out] at this;cases this];rfl,hK.mod⟩
       · go_roundw
         case rel=>exact ⟨j+1,by go_num,rfl,by omega,upto_succ hP.out HU.out ⟨Q1.out.symm,by rw [<-Q2.out];exact g1,Q3.out.symm,Q4.out.symm⟩,hK⟩
         case measure=>simp [intOf];omega
     · obtain rfl:j=c.ports.l.length:=by omega
       go_wp2_with (first
        |go_big_skip
        |((with_reducible refine wl ?_);refine ld ?_)
        |(with_reducible refine en ?_))
       go_loopw [6,5,2] (fun i all r wr=> ∃ (j:Nat) (ad:Option Addr) (N cap:Nat),i=.int .i64 j/\all=.slice ad N cap/\r=.bool false/\j<=c.robots.l.length/\N<=16/\Hid (N=(homesTo c j).length)/\Hid (∀ p∈c.robots.l.take j,fitsB c.p p=true)/\Know w wr none' [rOw 34 elCell (.slice ad N cap) (homesTo c j),rBlk b1 c.cells 26] [rRd elCell c.blocked.val c.blocked.l,rRd elCell c.ports.val c.ports.l,rRd elPose c.robots.val c.robots.l,rConf c]) (fun i _ _ _=>c.robots.l.length - (intOf i).toNat)
       case atStart=>exact ⟨0,_,_,_,rfl,rfl,rfl,Nat.zero_le _,by omega,rfl,by show ∀ x∈_,_;simp,hK.nil _ _⟩
       case round=>
        obtain ⟨j,ad,N,cap,rfl,rfl,rfl,hj,hN2,hN,hR,hK⟩:=hrel
        by_cases hlt:j<c.robots.l.length
        · obtain ⟨u,hu⟩: ∃ u,c.robots.l[j]?=some u:=⟨_,List.getElem?_eq_getElem hlt⟩
          have HU:=Lib.hid hu
          have HM:=Lib.hid (show u∈c.p.robots from List.mem_of_getElem? hu)
          clear hu
          have k1:=Lib.hid (fun (W:World) h=>hfi.out W u h)
          obtain ⟨q1,hq1⟩: ∃ q,q=fitsB c.p u:=⟨_,rfl⟩
          rw [<-hq1] at k1
          have Q1:=Lib.hid hq1
          clear hq1
          have hbl:=Lib.hid (homesTo_succ HU.out)
          have hlen:=homesTo_len c j
          have hbo:Hid (u.both.length=2):=rfl
          cases q1
          all_goals
           go_wp2_with (first
            |((with_reducible refine wt 122 ?_)
              (refine wl_ixK hK rfl rfl rfl rfl poseTy.und poseTy.size (h:=?_);intro b122 k122 hat122))
            |((with_reducible refine wt 130 ?_)
              (refine wl_ixK hK rfl rfl rfl rfl poseTy.und poseTy.size (h:=?_);intro b130 k130 hat130))
            |(go_at_call 50;(refine (hK.quiet (k1.out _ (hK.has (by simp)))).mono ?_;clear hK;rintro e w' ⟨rfl,hK⟩))
            |(go_at_call 51;(refine (ref_cells (p:=u)).mono ?_;rintro e w' ⟨ad1,rfl,hT⟩;replace hK:=hK.push1 hT;clear hT))
            |((with_reducible refine wt 133 ?_)
              (refine wl_appK (xs:=homesTo c j) (ys:=u.both) hK cellTy rfl rfl rfl rfl hK.rd (by rw [hbo.out];unfold maxLen;omega) (by rw [hbo.out];omega) (h:=?_);clear hK;intro ad2 N2 cap2 w2 hN2 hK;replace hN2:=Lib.hid hN2;simp only [z0,z1] at hK))
            |((with_reducible refine tx 17 hK ?_);clear hK;intro w' hK)
            |go_big_skip
            |((with_reducible refine wl ?_);refine ld ?_)
            |(with_reducible refine en ?_))
          · go_ret
            exact ⟨by rw [mayB_not fun h=>by have:=h.fits u HM.out;rw [<-Q1.out] at this;cases this];rfl,hK.mod⟩
          · go_roundw
            case rel=>
             have e2:N2=(homesTo c (j+1)).length:=by rw [hN2.out,hbl.out]
             have e3:=homesTo_len c (j+1)
             rw [<-hbl.out] at hK
             exact ⟨j+1,ad2,N2,cap2,by go_num,rfl,rfl,by omega,by omega,e2,upto_succ hR.out HU.out Q1.out.symm,hK.sub (.cons _ (List.Sublist.refl _))⟩
            case measure=>simp [intOf];omega
        · obtain rfl:j=c.robots.l.length:=by omega
          obtain ⟨xs,hxs⟩: ∃ xs,xs=homesTo c c.robots.l.length:=⟨_,rfl⟩
          have hall:=Lib.hid (hxs.trans (homesTo_all c))
          rw [<-hxs] at hK hN
          clear hxs
          have hNx:=hN.out
          subst hNx
          have hlen:xs.length<=9223372036854775807:=by omega
          go_wp2_with (first
           |go_big_skip
           |((with_reducible refine wl ?_);refine ld ?_)
           |(with_reducible refine en ?_))
          go_loopw [7,2] (fun i r wr=> ∃ j:Nat,i=.int .i64 j/\r=.bool false/\j<=xs.length/\Hid (∀ x∈xs.take j,xs.count x<=1)/\Know w wr none' [rOw 34 elCell (.slice ad xs.length cap) xs,rBlk b1 c.cells 26] [rRd elCell c.blocked.val c.blocked.l,rRd elCell c.ports.val c.ports.l,rRd elPose c.robots.val c.robots.l,rConf c]) (fun i _ _=>xs.length - (intOf i).toNat)
          case atStart=>exact ⟨0,rfl,rfl,Nat.zero_le _,by show ∀ x∈_,_;simp,hK⟩
          case round=>
           obtain ⟨j,rfl,rfl,hj,hX,hK⟩:=hrel
           by_cases hlt:j<xs.length
           · obtain ⟨u,hu⟩: ∃ u,xs[j]?=some u:=⟨_,List.getElem?_eq_getElem hlt⟩
             have HU:=Lib.hid hu
             clear hu
             have k2:=Lib.hid (fun (W:World) h=>ham.out W ⟨ad,xs,cap⟩ u h hlen)
             obtain ⟨q2,hq2⟩: ∃ q,q=xs.count u:=⟨_,rfl⟩
             simp only [<-hq2] at k2
             have Q2:=Lib.hid hq2
             clear hq2
             by_cases g1:1<q2
             all_goals
              first|have e1:decide ((1:Int)<(q2:Int))=true:=decide_eq_true (by omega)|have e1:decide ((1:Int)<(q2:Int))=false:=decide_eq_false (by omega)
              go_wp2_with (first
               |((with_reducible refine wt 143 ?_)
                 (refine wl_ixK hK rfl rfl rfl rfl cellTy.und cellTy.size (h:=?_);intro b143 k143 hat143))
               |(go_at_call 47;(refine (hK.quiet (k2.out _ hK.rd)).mono ?_;clear hK;rintro e w' ⟨rfl,hK⟩))
               |go_big_skip
               |((with_reducible refine wl ?_);refine ld ?_)
               |(with_reducible refine en ?_))
             · go_ret
               exact ⟨by rw [mayB_not fun h=>by have:=h.of.2.2 u (by rw [<-hall.out];exact List.mem_of_getElem? HU.out);rw [<-hall.out,<-Q2.out] at this;omega];rfl,hK.mod⟩
             · go_roundw
               case rel=>exact ⟨j+1,by go_num,rfl,by omega,upto_succ hX.out HU.out (by rw [<-Q2.out];omega),hK⟩
               case measure=>simp [intOf];omega
           · obtain rfl:j=xs.length:=by omega
             have hpre:PreP c.p:=pre_of HN.out.symm h1 h2 (upto_all hA.out) (upto_all hP.out) (upto_all hR.out) (by rw [<-hall.out];exact upto_all hX.out)
             have hbi:=Lib.hid (fun (W:World) (h:Has W (rConf c))=>ref_bins h hz hnums.out)
             have hm:=mayB_pre hpre
             obtain ⟨q,hq⟩: ∃ q,q=binsB c.p:=⟨_,rfl⟩
             rw [<-hq] at hbi hm
             have HM:=Lib.hid hm
             clear hpre hm hq
             go_wp2_with (first
              |(go_at_call 52;(refine (hK.quiet (hbi.out _ (hK.has (by simp)))).mono ?_;clear hK;rintro e w' ⟨rfl,hK⟩))
              |go_big_skip
              |((with_reducible refine wl ?_);refine ld ?_)
              |(with_reducible refine en ?_))
             go_ret
             exact ⟨by rw [HM.out];rfl,hK.mod⟩
end Go.Proofs.YtngeeilkpnihmaaGreatDoor
