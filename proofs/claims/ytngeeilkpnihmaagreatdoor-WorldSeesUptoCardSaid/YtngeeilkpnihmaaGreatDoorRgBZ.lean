/- Texts of mine that belong together: Rg1, Rg2, Rg3. -/
import Derived.Test.YtngeeilkpnihmaaGreatDoorRbCZ
import Derived.Test.YtngeeilkpnihmaaGreatDoorStAZ
import Derived.Test.YtngeeilkpnihmaaGreatDoorSkCalmZ
set_option linter.all false
namespace Go.Proofs.YtngeeilkpnihmaaGreatDoor
open Go Go.Sk Go.RowKit
set_option maxRecDepth 100000
set_option maxHeartbeats 2000000 in
theorem ref_shift {p:Pose} {d n:Int} {w:World} (hp:PoseWf p) (hd:0<=d/\d<=3) (hn:0<=n/\n<=16):Calls Tryz.prog 98 #[.agg p.cells.toArray,.int .i64 d,.int .i64 n] w (Ret (.agg (shiftP p d n).cells.toArray) w):=by
 have hK:Know w w none' [] []:=Know.start (L:=[]) w (by simp)
 obtain ⟨⟨x,y⟩,dn⟩:=p
 obtain ⟨⟨h1,h2⟩,h3,h4⟩:=hp
 simp only at h1 h2 h3 h4
 obtain ⟨hn0,hn1⟩:=hn
 have hd4:d=0\/d=1\/d=2\/d=3:=by omega
 clear hd
 obtain ⟨P,hP⟩: ∃ P,shiftP ⟨⟨x,y⟩,dn⟩ d n=P:=⟨_,rfl⟩
 have HP:=Lib.hid hP
 rw [hP]
 clear hP
 rcases hd4 with rfl|rfl|rfl|rfl
 all_goals
  go_enter Tryz.func98,Tryz.ntmps98
  go_wp2_with (first
   |((with_reducible refine wb 3 ?_)
     (refine wl_boxK hK rfl rfl rfl rfl ?_;clear hK;intro w3 b3 hK))
   |((with_reducible refine wl_at (o:=⟨some 6,.alloc _,_,_,_,_⟩) ?_)
     (refine wl_allocK (z:=.agg (poseZ3).toArray) (zs:=poseZ3) hK rfl rfl (by kernel_rfl) rfl ?_;clear hK;intro w6 b6 hK))
   |((with_reducible refine wl_at (o:=⟨none,.store 3 (.tmp 16) _,_,_,_,_⟩) ?_)
     (refine wl_storeK (v:=.int .i64 P.at_.y) hK rfl rfl rfl (by show Value.int IntKind.i64 _=_;rw [<-HP.out];simp [shiftP,dirY];try rfl) (sizT (by decide)) rfl (hk:=by simp [Pose.cells]) (h:=?_);clear hK;intro w' hK;replace hK:Know w w' none' [rBlk b6 poseZ3 36,rBlk b3 (Pose.cells ⟨⟨x,P.at_.y⟩,dn⟩) 36] []:=hK))
   |((with_reducible refine wl_at (o:=⟨none,.store 3 (.tmp 25) _,_,_,_,_⟩) ?_)
     (refine wl_storeK (v:=.int .i64 P.at_.x) hK rfl rfl rfl (by show Value.int IntKind.i64 _=_;rw [<-HP.out];simp [shiftP,dirX];try rfl) (sizT (by decide)) rfl (hk:=by simp [Pose.cells]) (h:=?_);clear hK;intro w' hK;replace hK:Know w w' none' [rBlk b6 poseZ3 36,rBlk b3 (Pose.cells ⟨⟨P.at_.x,y⟩,dn⟩) 36] []:=hK))
   |((with_reducible refine wl_at (o:=⟨none,.store 3 (.tmp 34) _,_,_,_,_⟩) ?_)
     (refine wl_storeK (v:=.int .i64 P.at_.y) hK rfl rfl rfl (by show Value.int IntKind.i64 _=_;rw [<-HP.out];simp [shiftP,dirY];try rfl) (sizT (by decide)) rfl (hk:=by simp [Pose.cells]) (h:=?_);clear hK;intro w' hK;replace hK:Know w w' none' [rBlk b6 poseZ3 36,rBlk b3 (Pose.cells ⟨⟨x,P.at_.y⟩,dn⟩) 36] []:=hK))
   |((with_reducible refine wl_at (o:=⟨none,.store 3 (.tmp 43) _,_,_,_,_⟩) ?_)
     (refine wl_storeK (v:=.int .i64 P.at_.x) hK rfl rfl rfl (by show Value.int IntKind.i64 _=_;rw [<-HP.out];simp [shiftP,dirX];try rfl) (sizT (by decide)) rfl (hk:=by simp [Pose.cells]) (h:=?_);clear hK;intro w' hK;replace hK:Know w w' none' [rBlk b6 poseZ3 36,rBlk b3 (Pose.cells ⟨⟨P.at_.x,y⟩,dn⟩) 36] []:=hK))
   |((with_reducible refine wl_at (o:=⟨none,.store 36 _ _,_,_,_,_⟩) ?_)
     (refine wl_storeWK (vs:=Pose.cells P) hK rfl rfl rfl (by rw [<-HP.out];simp [shiftP,dirX,dirY,wrap_id h1 h2,wrap_id h3 h4];try rfl) (aggS (by decide)) (pose_one _) (h:=?_);clear hK;intro w' hK;simp only [z0,z1] at hK))
   |go_big_skip
   |go_big_skip
   |((with_reducible refine wl ?_);refine ldQ ?_)
   |(with_reducible refine en ?_))
  exact bodyPost_ret (res_cellS rfl _ rfl (aggT (by decide)) rfl (hK.blk (b:=b6) (cs:=Pose.cells P)).at0) rfl ⟨rfl,hK.mod⟩
set_option maxHeartbeats 1000000 in
theorem ref_square {p:Pose} {w:World}:Calls Tryz.prog 127 #[.agg p.cells.toArray] w fun e w'=> ∃ ad,e=.returned (.slice ad 4 4)/\Turn (rOw 34 elCell (.slice ad 4 4) (squareP p.at_)) w w' none':=by
 have hK:=Know.start (L:=[]) w (by simp)
 obtain ⟨⟨x,y⟩,dn⟩:=p
 go_enter Tryz.func127,Tryz.ntmps127
 go_wp2_with (first
  |((with_reducible refine wb 1 ?_)
    (refine wl_boxK hK rfl rfl rfl rfl ?_;clear hK;intro w1 b1 hK))
  |((with_reducible refine wt 27 ?_)
    (refine wl_buildK 34 elCell (squareP ⟨x,y⟩) hK rfl rfl (fun W=>by kernel_rfl) rfl (by decide) ?_;clear hK;intro ad w5 hK))
  |go_big_skip
  |go_big_skip
  |((with_reducible refine wl ?_);refine ldQ ?_)
  |(with_reducible refine en ?_))
 go_ret
 exact ⟨ad,rfl,(hK.sub (.cons_cons _ (.cons _ .slnil))).turn⟩
end Go.Proofs.YtngeeilkpnihmaaGreatDoor
namespace Go.Proofs.YtngeeilkpnihmaaGreatDoor
open Go Go.Sk Go.RowKit
set_option maxRecDepth 100000
set_option maxHeartbeats 8000000 in
theorem ref_legal {c:ConfV} {m:Go.Sk.Move} {w:World} (hc:Has w (rConf c)) (hz:Sized c) (hp:PoseWf m.src):Calls Tryz.prog 99 #[.agg c.cells.toArray,.agg m.cells.toArray] w (Ret (.bool (legalP c.p m)) w):=by
 have hK:=Know.start (L:=[rConf c]) w (by simpa using hc)
 have kF:=Lib.hid (fun (W:World) (x:Pose) (h:Has W (rConf c))=>ref_fits (p:=x) h hz)
 have kO:=Lib.hid (fun (W:World) (x:Cell) (h:Has W (rConf c))=>ref_open (x:=x) h hz)
 have kF0:=Lib.hid (fun (W:World) (h:Has W (rConf c))=>ref_fits (p:=m.src) h hz)
 have kW:=Lib.hid (fun (v a b:Int) (W:World)=>ref_within v a b W)
 obtain ⟨L,hL⟩: ∃ L,legalP c.p m=L:=⟨_,rfl⟩
 rw [hL]
 unfold legalP at hL
 have HP:=Lib.hid hp
 clear hc
 obtain ⟨f,hf⟩: ∃ f,fitsB c.p m.src=f:=⟨_,rfl⟩
 rw [hf] at kF0 hL
 cases f with
 |false=>
  have HZ:=Lib.hid (show false=L by rw [<-hL];rfl)
  clear hL hf hp
  go_enter Tryz.func99,Tryz.ntmps99
  go_wp2_with (first
   |((with_reducible refine wb 2 ?_)
     (refine wl_boxK hK rfl rfl rfl rfl ?_;clear hK;intro w2 b2 hK))
   |((with_reducible refine wb 3 ?_)
     (refine wl_boxK hK rfl rfl rfl rfl ?_;clear hK;intro w3 b3 hK))
   |(go_at_call 50;(refine (hK.quiet (kF0.out _ hK.lent)).mono ?_;clear hK;rintro e w' ⟨rfl,hK⟩))
   |(go_at_call 72;(refine (hK.quiet (kW.out _ _ _ _)).mono ?_;clear hK;rintro e w' ⟨rfl,hK⟩))
   |go_big_skip
   |((with_reducible refine ws 10 ?_);(refine wl_loadPK (Pose.cells m.src) hK rfl rfl rfl (aggT (by decide)) (h:=?_)))
   |((with_reducible refine ws 31 ?_);(refine wl_loadPK (Pose.cells m.src) hK rfl rfl rfl (aggT (by decide)) (h:=?_)))
   |((with_reducible refine ws 47 ?_);(refine wl_loadPK (Pose.cells m.src) hK rfl rfl rfl (aggT (by decide)) (h:=?_)))
   |((with_reducible refine ws 57 ?_);(refine wl_loadPK (Pose.cells m.src) hK rfl rfl rfl (aggT (by decide)) (h:=?_)))
   |((with_reducible refine ws 106 ?_);(refine wl_loadPK (Pose.cells m.src) hK rfl rfl rfl (aggT (by decide)) (h:=?_)))
   |((with_reducible refine ws 29 ?_);(refine wl_loadPK (Pose.cells m.dst) hK rfl rfl rfl (aggT (by decide)) (h:=?_)))
   |((with_reducible refine ws 80 ?_);(refine wl_loadPK (Pose.cells m.dst) hK rfl rfl rfl (aggT (by decide)) (h:=?_)))
   |((with_reducible refine ws 104 ?_);(refine wl_loadPK (Pose.cells m.dst) hK rfl rfl rfl (aggT (by decide)) (h:=?_)))
   |go_big_skip
   |((with_reducible refine wl ?_);refine ldQ ?_)
   |(with_reducible refine en ?_))
  go_ret
  exact ⟨by rw [<-HZ.out];rfl,hK.mod⟩
 |true=>
  simp only [Bool.true_and] at hL
  by_cases k1:m.kind=1
  · have e1:(m.kind == 1)=true:=beq_iff_eq.2 k1
    have e1':decide (m.kind=1)=true:=decide_eq_true k1
    rw [if_pos k1] at hL
    by_cases a1:1<=m.n/\m.n<=16
    · have w1:Go.Sk.within m.n 1 16=true:=by simp [Go.Sk.within];omega
      by_cases a2:0<=m.dir/\m.dir<=3
      · have w2:Go.Sk.within m.dir 0 3=true:=by simp [Go.Sk.within];omega
        obtain ⟨T,hT⟩: ∃ T,shiftP m.src m.dir m.n=T:=⟨_,rfl⟩
        have kS:=Lib.hid (fun (W:World)=>ref_shift (w:=W) hp a2 (show 0<=m.n/\m.n<=16 by omega))
        have kSj:=Lib.hid (fun (W:World) (j:Int) (hj:0<=j/\j<=16)=>ref_shift (w:=W) hp a2 hj)
        rw [hT] at kS hL
        by_cases a3:m.dst=T
        · have HQ:=Lib.hid (show (!decide (m.dst=T))=false by rw [decide_eq_true a3];rfl)
          have HL2:=Lib.hid (show wayP c.p m.src m.dir m.n.toNat=L by rw [<-hL,decide_eq_true a1,decide_eq_true a2,decide_eq_true a3];rfl)
          obtain ⟨n1,n2⟩:=a1
          clear hL hf hp a2 a3 hT k1
          go_enter Tryz.func99,Tryz.ntmps99
          go_wp2_with (first
           |((with_reducible refine wb 2 ?_)
             (refine wl_boxK hK rfl rfl rfl rfl ?_;clear hK;intro w2 b2 hK))
           |((with_reducible refine wb 3 ?_)
             (refine wl_boxK hK rfl rfl rfl rfl ?_;clear hK;intro w3 b3 hK))
           |(go_at_call 50;(refine (hK.quiet (kF0.out _ hK.lent)).mono ?_;clear hK;rintro e w' ⟨rfl,hK⟩))
           |(go_at_call 72;(refine (hK.quiet (kW.out _ _ _ _)).mono ?_;clear hK;rintro e w' ⟨rfl,hK⟩))
           |go_big_skip
           |((with_reducible refine wp_region_stableK (id:=5) hK [12] [rBlk b3 m.cells 38] (by kernel_rfl) (by kernel_rfl) (by simp) (by kernel_rfl) ?_);clear hK;intro w' hK)
           |(with_reducible refine wpC_of ?_)
           |(with_reducible refine atEndC (hK.cls (by simp)) ?_)
           |((with_reducible refine wpC_end' ?_);refine wpC_nil ⟨by kernel_rfl,stays_loadSP (Pose.cells m.dst) rfl rfl rfl rfl (aggT (by decide)) (rest:=stays_nil),?_⟩)
           |(go_at_call 98;(refine (hK.quiet (kS.out _)).mono ?_;clear hK;rintro e w' ⟨rfl,hK⟩))
           |((with_reducible refine wt 37 ?_);(refine wl_neqP m.dst T poseEq rfl rfl rfl rfl ?_;rw [HQ.out]))
           |((with_reducible refine ws 10 ?_);(refine wl_loadPK (Pose.cells m.src) hK rfl rfl rfl (aggT (by decide)) (h:=?_)))
           |((with_reducible refine ws 31 ?_);(refine wl_loadPK (Pose.cells m.src) hK rfl rfl rfl (aggT (by decide)) (h:=?_)))
           |((with_reducible refine ws 47 ?_);(refine wl_loadPK (Pose.cells m.src) hK rfl rfl rfl (aggT (by decide)) (h:=?_)))
           |((with_reducible refine ws 57 ?_);(refine wl_loadPK (Pose.cells m.src) hK rfl rfl rfl (aggT (by decide)) (h:=?_)))
           |((with_reducible refine ws 106 ?_);(refine wl_loadPK (Pose.cells m.src) hK rfl rfl rfl (aggT (by decide)) (h:=?_)))
           |((with_reducible refine ws 29 ?_);(refine wl_loadPK (Pose.cells m.dst) hK rfl rfl rfl (aggT (by decide)) (h:=?_)))
           |((with_reducible refine ws 80 ?_);(refine wl_loadPK (Pose.cells m.dst) hK rfl rfl rfl (aggT (by decide)) (h:=?_)))
           |((with_reducible refine ws 104 ?_);(refine wl_loadPK (Pose.cells m.dst) hK rfl rfl rfl (aggT (by decide)) (h:=?_)))
           |go_big_skip
           |((with_reducible refine wl ?_);refine ldQ ?_)
           |(with_reducible refine en ?_))
          go_loopg [4,5] 19 (fun k _ i wr=> ∃ j:Nat,i=.int .i64 j/\k=20 - j/\1<=j/\(j:Int)<=m.n+1/\Hid (∀ t:Nat,1<=t->t<j->fitsB c.p (shiftP m.src m.dir t)=true)/\Know w wr none' [rBlk b3 m.cells 38,rBlk b2 c.cells 26] [rConf c])
          case atStart=>exact ⟨1,rfl,rfl,by omega,by omega,Lib.hid (fun t h h'=>by omega),hK⟩
          case round=>
           clear hK
           obtain ⟨j,rfl,rfl,hj,hjn,hP,hK⟩:=hrel
           by_cases hlt:(j:Int)<=m.n
           · have d1:decide ((j:Int)<=m.n)=true:=decide_eq_true hlt
             obtain ⟨x,hx⟩: ∃ x,shiftP m.src m.dir j=x:=⟨_,rfl⟩
             obtain ⟨f,hf⟩: ∃ f,fitsB c.p x=f:=⟨_,rfl⟩
             have kX:=Lib.hid (fun (W:World)=>kSj.out W j (by omega))
             have kFx:=Lib.hid (fun (W:World) (h:Has W (rConf c))=>kF.out W x h)
             rw [hx] at kX
             rw [hf] at kFx
             cases f with
             |true=>
              have HP2:=Lib.hid (show ∀ t:Nat,1<=t->t<j+1->fitsB c.p (shiftP m.src m.dir t)=true from fun t h0 ht=>by
               by_cases e:t=j
               · subst e;rw [hx,hf]
               · exact hP.out t h0 (by omega))
              clear hx hf
              go_wp2_with (first
               |((with_reducible refine wp_region_stableK (id:=10) hK [0] [rBlk b2 c.cells 26] (by kernel_rfl) (by kernel_rfl) (by simp) (by kernel_rfl) ?_);clear hK;intro w' hK)
               |(with_reducible refine wpC_of ?_)
               |(with_reducible refine atEndC (hK.cls (by simp)) ?_)
               |((with_reducible refine wpC_end' ?_);refine wpC_nil ⟨by kernel_rfl,stays_loadSK rfl rfl rfl rfl (aggT (by decide)) (rest:=stays_nil),?_⟩)
               |(go_at_call 98;(refine (hK.quiet (kX.out _)).mono ?_;clear hK;rintro e w' ⟨rfl,hK⟩))
               |(go_at_call 50;(refine (hK.quiet (kFx.out _ hK.lent)).mono ?_;clear hK;rintro e w' ⟨rfl,hK⟩))
               |((with_reducible refine ws 10 ?_);(refine wl_loadPK (Pose.cells m.src) hK rfl rfl rfl (aggT (by decide)) (h:=?_)))
               |((with_reducible refine ws 31 ?_);(refine wl_loadPK (Pose.cells m.src) hK rfl rfl rfl (aggT (by decide)) (h:=?_)))
               |((with_reducible refine ws 47 ?_);(refine wl_loadPK (Pose.cells m.src) hK rfl rfl rfl (aggT (by decide)) (h:=?_)))
               |((with_reducible refine ws 57 ?_);(refine wl_loadPK (Pose.cells m.src) hK rfl rfl rfl (aggT (by decide)) (h:=?_)))
               |((with_reducible refine ws 106 ?_);(refine wl_loadPK (Pose.cells m.src) hK rfl rfl rfl (aggT (by decide)) (h:=?_)))
               |((with_reducible refine ws 29 ?_);(refine wl_loadPK (Pose.cells m.dst) hK rfl rfl rfl (aggT (by decide)) (h:=?_)))
               |((with_reducible refine ws 80 ?_);(refine wl_loadPK (Pose.cells m.dst) hK rfl rfl rfl (aggT (by decide)) (h:=?_)))
               |((with_reducible refine ws 104 ?_);(refine wl_loadPK (Pose.cells m.dst) hK rfl rfl rfl (aggT (by decide)) (h:=?_)))
               |go_big_skip
               |go_big_skip
               |((with_reducible refine wl ?_);refine ldQ ?_)
               |(with_reducible refine en ?_))
              go_roundg (20 - (j+1))
              case measure=>omega
              case rel=>exact ⟨j+1,by go_num,rfl,by omega,by omega,HP2,hK⟩
             |false=>
              have HZ:=Lib.hid (show false=L by
               rw [<-HL2.out]
               unfold wayP
               symm
               rw [List.all_eq_false]
               refine ⟨j - 1,List.mem_range.2 (by omega),?_⟩
               rw [show ((j - 1:Nat):Int)+1=j by omega,hx,hf]
               decide)
              clear hx hf
              go_wp2_with (first
               |((with_reducible refine wp_region_stableK (id:=10) hK [0] [rBlk b2 c.cells 26] (by kernel_rfl) (by kernel_rfl) (by simp) (by kernel_rfl) ?_);clear hK;intro w' hK)
               |(with_reducible refine wpC_of ?_)
               |(with_reducible refine atEndC (hK.cls (by simp)) ?_)
               |((with_reducible refine wpC_end' ?_);refine wpC_nil ⟨by kernel_rfl,stays_loadSK rfl rfl rfl rfl (aggT (by decide)) (rest:=stays_nil),?_⟩)
               |(go_at_call 98;(refine (hK.quiet (kX.out _)).mono ?_;clear hK;rintro e w' ⟨rfl,hK⟩))
               |(go_at_call 50;(refine (hK.quiet (kFx.out _ hK.lent)).mono ?_;clear hK;rintro e w' ⟨rfl,hK⟩))
               |((with_reducible refine ws 10 ?_);(refine wl_loadPK (Pose.cells m.src) hK rfl rfl rfl (aggT (by decide)) (h:=?_)))
               |((with_reducible refine ws 31 ?_);(refine wl_loadPK (Pose.cells m.src) hK rfl rfl rfl (aggT (by decide)) (h:=?_)))
               |((with_reducible refine ws 47 ?_);(refine wl_loadPK (Pose.cells m.src) hK rfl rfl rfl (aggT (by decide)) (h:=?_)))
               |((with_reducible refine ws 57 ?_);(refine wl_loadPK (Pose.cells m.src) hK rfl rfl rfl (aggT (by decide)) (h:=?_)))
               |((with_reducible refine ws 106 ?_);(refine wl_loadPK (Pose.cells m.src) hK rfl rfl rfl (aggT (by decide)) (h:=?_)))
               |((with_reducible refine ws 29 ?_);(refine wl_loadPK (Pose.cells m.dst) hK rfl rfl rfl (aggT (by decide)) (h:=?_)))
               |((with_reducible refine ws 80 ?_);(refine wl_loadPK (Pose.cells m.dst) hK rfl rfl rfl (aggT (by decide)) (h:=?_)))
               |((with_reducible refine ws 104 ?_);(refine wl_loadPK (Pose.cells m.dst) hK rfl rfl rfl (aggT (by decide)) (h:=?_)))
               |go_big_skip
               |go_big_skip
               |((with_reducible refine wl ?_);refine ldQ ?_)
               |(with_reducible refine en ?_))
              go_ret
              exact ⟨by rw [<-HZ.out];rfl,hK.mod⟩
           · have d1:decide ((j:Int)<=m.n)=false:=decide_eq_false hlt
             have HZ:=Lib.hid (show true=L by
              rw [<-HL2.out]
              unfold wayP
              symm
              rw [List.all_eq_true]
              intro t ht
              have ht:=List.mem_range.1 ht
              have:=hP.out (t+1) (by omega) (by omega)
              rw [show ((t+1:Nat):Int)=(t:Int)+1 by omega] at this
              exact this)
             go_wp2_with (first
              |go_big_skip
              |go_big_skip
              |((with_reducible refine wl ?_);refine ldQ ?_)
              |(with_reducible refine en ?_))
             go_ret
             exact ⟨by rw [<-HZ.out];rfl,hK.mod⟩
        · have HQ:=Lib.hid (show (!decide (m.dst=T))=true by rw [decide_eq_false a3];rfl)
          have HZ:=Lib.hid (show false=L by rw [<-hL,decide_eq_true a1,decide_eq_true a2,decide_eq_false a3];rfl)
          clear hL hf hp a1 a2 a3 hT k1
          go_enter Tryz.func99,Tryz.ntmps99
          go_wp2_with (first
           |((with_reducible refine wb 2 ?_)
             (refine wl_boxK hK rfl rfl rfl rfl ?_;clear hK;intro w2 b2 hK))
           |((with_reducible refine wb 3 ?_)
             (refine wl_boxK hK rfl rfl rfl rfl ?_;clear hK;intro w3 b3 hK))
           |(go_at_call 50;(refine (hK.quiet (kF0.out _ hK.lent)).mono ?_;clear hK;rintro e w' ⟨rfl,hK⟩))
           |(go_at_call 72;(refine (hK.quiet (kW.out _ _ _ _)).mono ?_;clear hK;rintro e w' ⟨rfl,hK⟩))
           |go_big_skip
           |((with_reducible refine wp_region_stableK (id:=5) hK [12] [rBlk b3 m.cells 38] (by kernel_rfl) (by kernel_rfl) (by simp) (by kernel_rfl) ?_);clear hK;intro w' hK)
           |(with_reducible refine wpC_of ?_)
           |(with_reducible refine atEndC (hK.cls (by simp)) ?_)
           |((with_reducible refine wpC_end' ?_);refine wpC_nil ⟨by kernel_rfl,stays_loadSP (Pose.cells m.dst) rfl rfl rfl rfl (aggT (by decide)) (rest:=stays_nil),?_⟩)
           |(go_at_call 98;(refine (hK.quiet (kS.out _)).mono ?_;clear hK;rintro e w' ⟨rfl,hK⟩))
           |((with_reducible refine wt 37 ?_);(refine wl_neqP m.dst T poseEq rfl rfl rfl rfl ?_;rw [HQ.out]))
           |((with_reducible refine ws 10 ?_);(refine wl_loadPK (Pose.cells m.src) hK rfl rfl rfl (aggT (by decide)) (h:=?_)))
           |((with_reducible refine ws 31 ?_);(refine wl_loadPK (Pose.cells m.src) hK rfl rfl rfl (aggT (by decide)) (h:=?_)))
           |((with_reducible refine ws 47 ?_);(refine wl_loadPK (Pose.cells m.src) hK rfl rfl rfl (aggT (by decide)) (h:=?_)))
           |((with_reducible refine ws 57 ?_);(refine wl_loadPK (Pose.cells m.src) hK rfl rfl rfl (aggT (by decide)) (h:=?_)))
           |((with_reducible refine ws 106 ?_);(refine wl_loadPK (Pose.cells m.src) hK rfl rfl rfl (aggT (by decide)) (h:=?_)))
           |((with_reducible refine ws 29 ?_);(refine wl_loadPK (Pose.cells m.dst) hK rfl rfl rfl (aggT (by decide)) (h:=?_)))
           |((with_reducible refine ws 80 ?_);(refine wl_loadPK (Pose.cells m.dst) hK rfl rfl rfl (aggT (by decide)) (h:=?_)))
           |((with_reducible refine ws 104 ?_);(refine wl_loadPK (Pose.cells m.dst) hK rfl rfl rfl (aggT (by decide)) (h:=?_)))
           |go_big_skip
           |((with_reducible refine wl ?_);refine ldQ ?_)
           |(with_reducible refine en ?_))
          go_ret
          exact ⟨by rw [<-HZ.out];rfl,hK.mod⟩
      · have w2:Go.Sk.within m.dir 0 3=false:=by simp [Go.Sk.within];omega
        have HZ:=Lib.hid (show false=L by rw [<-hL,decide_eq_true a1,decide_eq_false a2];rfl)
        clear hL hf hp a1 a2 k1
        go_enter Tryz.func99,Tryz.ntmps99
        go_wp2_with (first
         |((with_reducible refine wb 2 ?_)
           (refine wl_boxK hK rfl rfl rfl rfl ?_;clear hK;intro w2 b2 hK))
         |((with_reducible refine wb 3 ?_)
           (refine wl_boxK hK rfl rfl rfl rfl ?_;clear hK;intro w3 b3 hK))
         |(go_at_call 50;(refine (hK.quiet (kF0.out _ hK.lent)).mono ?_;clear hK;rintro e w' ⟨rfl,hK⟩))
         |(go_at_call 72;(refine (hK.quiet (kW.out _ _ _ _)).mono ?_;clear hK;rintro e w' ⟨rfl,hK⟩))
         |go_big_skip
         |((with_reducible refine wp_region_stableK (id:=5) hK [12] [rBlk b3 m.cells 38] (by kernel_rfl) (by kernel_rfl) (by simp) (by kernel_rfl) ?_);clear hK;intro w' hK)
         |(with_reducible refine wpC_of ?_)
         |(with_reducible refine atEndC (hK.cls (by simp)) ?_)
         |((with_reducible refine wpC_end' ?_);refine wpC_nil ⟨by kernel_rfl,stays_skip rfl rfl (stays_nil),?_⟩)
         |((with_reducible refine ws 10 ?_);(refine wl_loadPK (Pose.cells m.src) hK rfl rfl rfl (aggT (by decide)) (h:=?_)))
         |((with_reducible refine ws 31 ?_);(refine wl_loadPK (Pose.cells m.src) hK rfl rfl rfl (aggT (by decide)) (h:=?_)))
         |((with_reducible refine ws 47 ?_);(refine wl_loadPK (Pose.cells m.src) hK rfl rfl rfl (aggT (by decide)) (h:=?_)))
         |((with_reducible refine ws 57 ?_);(refine wl_loadPK (Pose.cells m.src) hK rfl rfl rfl (aggT (by decide)) (h:=?_)))
         |((with_reducible refine ws 106 ?_);(refine wl_loadPK (Pose.cells m.src) hK rfl rfl rfl (aggT (by decide)) (h:=?_)))
         |((with_reducible refine ws 29 ?_);(refine wl_loadPK (Pose.cells m.dst) hK rfl rfl rfl (aggT (by decide)) (h:=?_)))
         |((with_reducible refine ws 80 ?_);(refine wl_loadPK (Pose.cells m.dst) hK rfl rfl rfl (aggT (by decide)) (h:=?_)))
         |((with_reducible refine ws 104 ?_);(refine wl_loadPK (Pose.cells m.dst) hK rfl rfl rfl (aggT (by decide)) (h:=?_)))
         |go_big_skip
         |((with_reducible refine wl ?_);refine ldQ ?_)
         |(with_reducible refine en ?_))
        go_ret
        exact ⟨by rw [<-HZ.out];rfl,hK.mod⟩
    · have w1:Go.Sk.within m.n 1 16=false:=by simp [Go.Sk.within];omega
      have HZ:=Lib.hid (show false=L by rw [<-hL,decide_eq_false a1];rfl)
      clear hL hf hp a1 k1
      go_enter Tryz.func99,Tryz.ntmps99
      go_wp2_with (first
       |((with_reducible refine wb 2 ?_)
         (refine wl_boxK hK rfl rfl rfl rfl ?_;clear hK;intro w2 b2 hK))
       |((with_reducible refine wb 3 ?_)
         (refine wl_boxK hK rfl rfl rfl rfl ?_;clear hK;intro w3 b3 hK))
       |(go_at_call 50;(refine (hK.quiet (kF0.out _ hK.lent)).mono ?_;clear hK;rintro e w' ⟨rfl,hK⟩))
       |(go_at_call 72;(refine (hK.quiet (kW.out _ _ _ _)).mono ?_;clear hK;rintro e w' ⟨rfl,hK⟩))
       |go_big_skip
       |((with_reducible refine wp_region_stableK (id:=5) hK [12] [rBlk b3 m.cells 38] (by kernel_rfl) (by kernel_rfl) (by simp) (by kernel_rfl) ?_);clear hK;intro w' hK)
       |(with_reducible refine wpC_of ?_)
       |(with_reducible refine atEndC (hK.cls (by simp)) ?_)
       |((with_reducible refine wpC_end' ?_);refine wpC_nil ⟨by kernel_rfl,stays_skip rfl rfl (stays_nil),?_⟩)
       |((with_reducible refine ws 10 ?_);(refine wl_loadPK (Pose.cells m.src) hK rfl rfl rfl (aggT (by decide)) (h:=?_)))
       |((with_reducible refine ws 31 ?_);(refine wl_loadPK (Pose.cells m.src) hK rfl rfl rfl (aggT (by decide)) (h:=?_)))
       |((with_reducible refine ws 47 ?_);(refine wl_loadPK (Pose.cells m.src) hK rfl rfl rfl (aggT (by decide)) (h:=?_)))
       |((with_reducible refine ws 57 ?_);(refine wl_loadPK (Pose.cells m.src) hK rfl rfl rfl (aggT (by decide)) (h:=?_)))
       |((with_reducible refine ws 106 ?_);(refine wl_loadPK (Pose.cells m.src) hK rfl rfl rfl (aggT (by decide)) (h:=?_)))
       |((with_reducible refine ws 29 ?_);(refine wl_loadPK (Pose.cells m.dst) hK rfl rfl rfl (aggT (by decide)) (h:=?_)))
       |((with_reducible refine ws 80 ?_);(refine wl_loadPK (Pose.cells m.dst) hK rfl rfl rfl (aggT (by decide)) (h:=?_)))
       |((with_reducible refine ws 104 ?_);(refine wl_loadPK (Pose.cells m.dst) hK rfl rfl rfl (aggT (by decide)) (h:=?_)))
       |go_big_skip
       |((with_reducible refine wl ?_);refine ldQ ?_)
       |(with_reducible refine en ?_))
      go_ret
      exact ⟨by rw [<-HZ.out];rfl,hK.mod⟩
  · have e1:(m.kind == 1)=false:=beq_eq_false_iff_ne.2 k1
    have e1':decide (m.kind=1)=false:=decide_eq_false k1
    rw [if_neg k1] at hL
    by_cases k2:m.kind=2
    · have e2:(m.kind == 2)=true:=beq_iff_eq.2 k2
      have e2':decide (m.kind=2)=true:=decide_eq_true k2
      rw [if_pos k2] at hL
      obtain ⟨q,hq⟩: ∃ q,decide (m.dst=⟨m.src.at_,!m.src.down⟩)=q:=⟨_,rfl⟩
      have HQ:=Lib.hid hq
      obtain ⟨sq,hsq⟩: ∃ sq,squareP m.src.at_=sq:=⟨_,rfl⟩
      have hsl:sq.length=4:=by rw [<-hsq];rfl
      have kS:=Lib.hid (fun (W:World)=>ref_square (p:=m.src) (w:=W))
      rw [hsq] at kS hL
      rw [hq] at hL
      have HL2:=Lib.hid hL
      clear hL hf hp hq hsq k1 k2
      go_enter Tryz.func99,Tryz.ntmps99
      go_wp2_with (first
       |((with_reducible refine wb 2 ?_)
         (refine wl_boxK hK rfl rfl rfl rfl ?_;clear hK;intro w2 b2 hK))
       |((with_reducible refine wb 3 ?_)
         (refine wl_boxK hK rfl rfl rfl rfl ?_;clear hK;intro w3 b3 hK))
       |(go_at_call 50;(refine (hK.quiet (kF0.out _ hK.lent)).mono ?_;clear hK;rintro e w' ⟨rfl,hK⟩))
       |(go_at_call 72;(refine (hK.quiet (kW.out _ _ _ _)).mono ?_;clear hK;rintro e w' ⟨rfl,hK⟩))
       |go_big_skip
       |(go_at_call 127;(refine (kS.out _).mono ?_;rintro e w' ⟨ads,rfl,hT⟩;replace hK:=hK.push1 hT;clear hT))
       |((with_reducible refine ws 10 ?_);(refine wl_loadPK (Pose.cells m.src) hK rfl rfl rfl (aggT (by decide)) (h:=?_)))
       |((with_reducible refine ws 31 ?_);(refine wl_loadPK (Pose.cells m.src) hK rfl rfl rfl (aggT (by decide)) (h:=?_)))
       |((with_reducible refine ws 47 ?_);(refine wl_loadPK (Pose.cells m.src) hK rfl rfl rfl (aggT (by decide)) (h:=?_)))
       |((with_reducible refine ws 57 ?_);(refine wl_loadPK (Pose.cells m.src) hK rfl rfl rfl (aggT (by decide)) (h:=?_)))
       |((with_reducible refine ws 106 ?_);(refine wl_loadPK (Pose.cells m.src) hK rfl rfl rfl (aggT (by decide)) (h:=?_)))
       |((with_reducible refine ws 29 ?_);(refine wl_loadPK (Pose.cells m.dst) hK rfl rfl rfl (aggT (by decide)) (h:=?_)))
       |((with_reducible refine ws 80 ?_);(refine wl_loadPK (Pose.cells m.dst) hK rfl rfl rfl (aggT (by decide)) (h:=?_)))
       |((with_reducible refine ws 104 ?_);(refine wl_loadPK (Pose.cells m.dst) hK rfl rfl rfl (aggT (by decide)) (h:=?_)))
       |go_big_skip
       |((with_reducible refine wl ?_);refine ldQ ?_)
       |(with_reducible refine en ?_))
      go_loopg [4,7] 4 (fun k _ i wr=> ∃ j:Nat,i=.int .i64 j/\k=4 - j/\j<=4/\Hid (∀ (t:Nat) (y:Cell),t<j->sq[t]?=some y->openB c.p y=true)/\Know w wr none' [rOw 34 elCell (.slice ads 4 4) sq,rBlk b3 m.cells 38,rBlk b2 c.cells 26] [rConf c])
      case atStart=>exact ⟨0,rfl,rfl,by omega,Lib.hid (fun t y h=>absurd h (Nat.not_lt_zero t)),hK⟩
      case round=>
       clear hK
       obtain ⟨j,rfl,rfl,hj,hP,hK⟩:=hrel
       by_cases hlt:j<4
       · obtain ⟨y,hy⟩: ∃ y,sq[j]?=some y:=⟨_,List.getElem?_eq_getElem (by omega)⟩
         have HY:=Lib.hid hy
         obtain ⟨o,ho⟩: ∃ o,openB c.p y=o:=⟨_,rfl⟩
         have kOy:=Lib.hid (fun (W:World) (h1:Has W (rConf c))=>kO.out W y h1)
         rw [ho] at kOy
         cases o with
         |true=>
          have HP2:=Lib.hid (show ∀ (t:Nat) (z:Cell),t<j+1->sq[t]?=some z->openB c.p z=true from fun t z ht hz=>by
           by_cases e:t=j
           · subst e;rw [HY.out] at hz;cases hz;exact ho
           · exact hP.out t z (by omega) hz)
          clear hy ho
          go_wp2_with (first
           |((with_reducible refine wt 66 ?_)
             (refine wl_ixK hK rfl rfl rfl rfl cellTy.und cellTy.size (h:=?_);intro b66 k66 hat66))
           |((with_reducible refine tx 18 hK ?_);clear hK;intro w' hK)
           |(go_at_call 44;(refine (hK.quiet (kOy.out _ hK.lent)).mono ?_;clear hK;rintro e w' ⟨rfl,hK⟩))
           |go_big_skip
           |go_big_skip
           |((with_reducible refine wl ?_);refine ldQ ?_)
           |(with_reducible refine en ?_))
          go_roundg (4 - (j+1))
          case measure=>omega
          case rel=>exact ⟨j+1,by go_num,rfl,by omega,HP2,hK⟩
         |false=>
          have HZ:=Lib.hid (show false=L by
           rw [<-HL2.out]
           have:sq.all (openB c.p)=false:=by
            rw [List.all_eq_false]
            exact ⟨y,List.mem_of_getElem? HY.out,by rw [ho];decide⟩
           rw [this]
           rfl)
          clear hy ho
          go_wp2_with (first
           |((with_reducible refine wt 66 ?_)
             (refine wl_ixK hK rfl rfl rfl rfl cellTy.und cellTy.size (h:=?_);intro b66 k66 hat66))
           |((with_reducible refine tx 18 hK ?_);clear hK;intro w' hK)
           |(go_at_call 44;(refine (hK.quiet (kOy.out _ hK.lent)).mono ?_;clear hK;rintro e w' ⟨rfl,hK⟩))
           |go_big_skip
           |go_big_skip
           |((with_reducible refine wl ?_);refine ldQ ?_)
           |(with_reducible refine en ?_))
          go_ret
          exact ⟨by rw [<-HZ.out];rfl,hK.mod⟩
       · obtain rfl:j=4:=by omega
         have hall:sq.all (openB c.p)=true:=by
          rw [List.all_eq_true]
          intro y hy
          obtain ⟨t,ht⟩:=List.getElem?_of_mem hy
          exact hP.out t y (by have:=(List.getElem?_eq_some_iff.1 ht).1;omega) ht
         by_cases z1:m.n=0
         · have f1:(m.n == 0)=true:=beq_iff_eq.2 z1
           have f1':decide (m.n=0)=true:=decide_eq_true z1
           by_cases z2:m.dir=0
           · have f2:(m.dir == 0)=true:=beq_iff_eq.2 z2
             have f2':decide (m.dir=0)=true:=decide_eq_true z2
             have HZ:=Lib.hid (show q=L by rw [<-HL2.out,hall,f1',f2'];simp)
             clear z1 z2
             go_wp2_with (first
              |go_big_skip
              |((with_reducible refine ws 83 ?_);(refine wl_loadPK [.int .i64 m.src.at_.x,.int .i64 m.src.at_.y] hK rfl rfl rfl (aggT (by decide)) (h:=?_)))
              |((with_reducible refine wt 89 ?_);(refine wl_eqlP m.dst ⟨m.src.at_,!m.src.down⟩ poseEq rfl rfl rfl rfl ?_;rw [HQ.out]))
              |((with_reducible refine ws 10 ?_);(refine wl_loadPK (Pose.cells m.src) hK rfl rfl rfl (aggT (by decide)) (h:=?_)))
              |((with_reducible refine ws 31 ?_);(refine wl_loadPK (Pose.cells m.src) hK rfl rfl rfl (aggT (by decide)) (h:=?_)))
              |((with_reducible refine ws 47 ?_);(refine wl_loadPK (Pose.cells m.src) hK rfl rfl rfl (aggT (by decide)) (h:=?_)))
              |((with_reducible refine ws 57 ?_);(refine wl_loadPK (Pose.cells m.src) hK rfl rfl rfl (aggT (by decide)) (h:=?_)))
              |((with_reducible refine ws 106 ?_);(refine wl_loadPK (Pose.cells m.src) hK rfl rfl rfl (aggT (by decide)) (h:=?_)))
              |((with_reducible refine ws 29 ?_);(refine wl_loadPK (Pose.cells m.dst) hK rfl rfl rfl (aggT (by decide)) (h:=?_)))
              |((with_reducible refine ws 80 ?_);(refine wl_loadPK (Pose.cells m.dst) hK rfl rfl rfl (aggT (by decide)) (h:=?_)))
              |((with_reducible refine ws 104 ?_);(refine wl_loadPK (Pose.cells m.dst) hK rfl rfl rfl (aggT (by decide)) (h:=?_)))
              |go_big_skip
              |((with_reducible refine wl ?_);refine ldQ ?_)
              |(with_reducible refine en ?_))
             go_ret
             exact ⟨by rw [<-HZ.out];rfl,hK.mod⟩
           · have f2:(m.dir == 0)=false:=beq_eq_false_iff_ne.2 z2
             have f2':decide (m.dir=0)=false:=decide_eq_false z2
             have HZ:=Lib.hid (show false=L by rw [<-HL2.out,f1',f2'];simp)
             clear z1 z2
             go_wp2_with (first
              |go_big_skip
              |((with_reducible refine ws 83 ?_);(refine wl_loadPK [.int .i64 m.src.at_.x,.int .i64 m.src.at_.y] hK rfl rfl rfl (aggT (by decide)) (h:=?_)))
              |((with_reducible refine wt 89 ?_);(refine wl_eqlP m.dst ⟨m.src.at_,!m.src.down⟩ poseEq rfl rfl rfl rfl ?_;rw [HQ.out]))
              |((with_reducible refine ws 10 ?_);(refine wl_loadPK (Pose.cells m.src) hK rfl rfl rfl (aggT (by decide)) (h:=?_)))
              |((with_reducible refine ws 31 ?_);(refine wl_loadPK (Pose.cells m.src) hK rfl rfl rfl (aggT (by decide)) (h:=?_)))
              |((with_reducible refine ws 47 ?_);(refine wl_loadPK (Pose.cells m.src) hK rfl rfl rfl (aggT (by decide)) (h:=?_)))
              |((with_reducible refine ws 57 ?_);(refine wl_loadPK (Pose.cells m.src) hK rfl rfl rfl (aggT (by decide)) (h:=?_)))
              |((with_reducible refine ws 106 ?_);(refine wl_loadPK (Pose.cells m.src) hK rfl rfl rfl (aggT (by decide)) (h:=?_)))
              |((with_reducible refine ws 29 ?_);(refine wl_loadPK (Pose.cells m.dst) hK rfl rfl rfl (aggT (by decide)) (h:=?_)))
              |((with_reducible refine ws 80 ?_);(refine wl_loadPK (Pose.cells m.dst) hK rfl rfl rfl (aggT (by decide)) (h:=?_)))
              |((with_reducible refine ws 104 ?_);(refine wl_loadPK (Pose.cells m.dst) hK rfl rfl rfl (aggT (by decide)) (h:=?_)))
              |go_big_skip
              |((with_reducible refine wl ?_);refine ldQ ?_)
              |(with_reducible refine en ?_))
             go_ret
             exact ⟨by rw [<-HZ.out];rfl,hK.mod⟩
         · have f1:(m.n == 0)=false:=beq_eq_false_iff_ne.2 z1
           have f1':decide (m.n=0)=false:=decide_eq_false z1
           have HZ:=Lib.hid (show false=L by rw [<-HL2.out,f1'];simp)
           clear z1
           go_wp2_with (first
            |go_big_skip
            |((with_reducible refine ws 83 ?_);(refine wl_loadPK [.int .i64 m.src.at_.x,.int .i64 m.src.at_.y] hK rfl rfl rfl (aggT (by decide)) (h:=?_)))
            |((with_reducible refine wt 89 ?_);(refine wl_eqlP m.dst ⟨m.src.at_,!m.src.down⟩ poseEq rfl rfl rfl rfl ?_;rw [HQ.out]))
            |((with_reducible refine ws 10 ?_);(refine wl_loadPK (Pose.cells m.src) hK rfl rfl rfl (aggT (by decide)) (h:=?_)))
            |((with_reducible refine ws 31 ?_);(refine wl_loadPK (Pose.cells m.src) hK rfl rfl rfl (aggT (by decide)) (h:=?_)))
            |((with_reducible refine ws 47 ?_);(refine wl_loadPK (Pose.cells m.src) hK rfl rfl rfl (aggT (by decide)) (h:=?_)))
            |((with_reducible refine ws 57 ?_);(refine wl_loadPK (Pose.cells m.src) hK rfl rfl rfl (aggT (by decide)) (h:=?_)))
            |((with_reducible refine ws 106 ?_);(refine wl_loadPK (Pose.cells m.src) hK rfl rfl rfl (aggT (by decide)) (h:=?_)))
            |((with_reducible refine ws 29 ?_);(refine wl_loadPK (Pose.cells m.dst) hK rfl rfl rfl (aggT (by decide)) (h:=?_)))
            |((with_reducible refine ws 80 ?_);(refine wl_loadPK (Pose.cells m.dst) hK rfl rfl rfl (aggT (by decide)) (h:=?_)))
            |((with_reducible refine ws 104 ?_);(refine wl_loadPK (Pose.cells m.dst) hK rfl rfl rfl (aggT (by decide)) (h:=?_)))
            |go_big_skip
            |((with_reducible refine wl ?_);refine ldQ ?_)
            |(with_reducible refine en ?_))
           go_ret
           exact ⟨by rw [<-HZ.out];rfl,hK.mod⟩
    · have e2:(m.kind == 2)=false:=beq_eq_false_iff_ne.2 k2
      have e2':decide (m.kind=2)=false:=decide_eq_false k2
      rw [if_neg k2] at hL
      by_cases k3:m.kind=3\/m.kind=4
      · rw [if_pos k3] at hL
        obtain ⟨q,hq⟩: ∃ q,decide (m.dst=m.src)=q:=⟨_,rfl⟩
        have HQ:=Lib.hid hq
        rw [hq] at hL
        have HL2:=Lib.hid hL
        clear hL hf hp hq k1 k2
        rcases k3 with k3|k3
        · have e3:(m.kind == 3)=true:=beq_iff_eq.2 k3
          have e3':decide (m.kind=3)=true:=decide_eq_true k3
          by_cases z1:m.n=0
          · have f1:(m.n == 0)=true:=beq_iff_eq.2 z1
            have f1':decide (m.n=0)=true:=decide_eq_true z1
            by_cases z2:m.dir=0
            · have f2:(m.dir == 0)=true:=beq_iff_eq.2 z2
              have f2':decide (m.dir=0)=true:=decide_eq_true z2
              have HZ:=Lib.hid (show q=L by rw [<-HL2.out,f1',f2'];simp)
              clear z1 z2
              go_enter Tryz.func99,Tryz.ntmps99
              go_wp2_with (first
               |((with_reducible refine wb 2 ?_)
                 (refine wl_boxK hK rfl rfl rfl rfl ?_;clear hK;intro w2 b2 hK))
               |((with_reducible refine wb 3 ?_)
                 (refine wl_boxK hK rfl rfl rfl rfl ?_;clear hK;intro w3 b3 hK))
               |(go_at_call 50;(refine (hK.quiet (kF0.out _ hK.lent)).mono ?_;clear hK;rintro e w' ⟨rfl,hK⟩))
               |(go_at_call 72;(refine (hK.quiet (kW.out _ _ _ _)).mono ?_;clear hK;rintro e w' ⟨rfl,hK⟩))
               |go_big_skip
               |((with_reducible refine wt 107 ?_);(refine wl_eqlP m.dst m.src poseEq rfl rfl rfl rfl ?_;rw [HQ.out]))
               |((with_reducible refine ws 10 ?_);(refine wl_loadPK (Pose.cells m.src) hK rfl rfl rfl (aggT (by decide)) (h:=?_)))
               |((with_reducible refine ws 31 ?_);(refine wl_loadPK (Pose.cells m.src) hK rfl rfl rfl (aggT (by decide)) (h:=?_)))
               |((with_reducible refine ws 47 ?_);(refine wl_loadPK (Pose.cells m.src) hK rfl rfl rfl (aggT (by decide)) (h:=?_)))
               |((with_reducible refine ws 57 ?_);(refine wl_loadPK (Pose.cells m.src) hK rfl rfl rfl (aggT (by decide)) (h:=?_)))
               |((with_reducible refine ws 106 ?_);(refine wl_loadPK (Pose.cells m.src) hK rfl rfl rfl (aggT (by decide)) (h:=?_)))
               |((with_reducible refine ws 29 ?_);(refine wl_loadPK (Pose.cells m.dst) hK rfl rfl rfl (aggT (by decide)) (h:=?_)))
               |((with_reducible refine ws 80 ?_);(refine wl_loadPK (Pose.cells m.dst) hK rfl rfl rfl (aggT (by decide)) (h:=?_)))
               |((with_reducible refine ws 104 ?_);(refine wl_loadPK (Pose.cells m.dst) hK rfl rfl rfl (aggT (by decide)) (h:=?_)))
               |go_big_skip
               |((with_reducible refine wl ?_);refine ldQ ?_)
               |(with_reducible refine en ?_))
              go_ret
              exact ⟨by rw [<-HZ.out];rfl,hK.mod⟩
            · have f2:(m.dir == 0)=false:=beq_eq_false_iff_ne.2 z2
              have f2':decide (m.dir=0)=false:=decide_eq_false z2
              have HZ:=Lib.hid (show false=L by rw [<-HL2.out,f1',f2'];simp)
              clear z1 z2
              go_enter Tryz.func99,Tryz.ntmps99
              go_wp2_with (first
               |((with_reducible refine wb 2 ?_)
                 (refine wl_boxK hK rfl rfl rfl rfl ?_;clear hK;intro w2 b2 hK))
               |((with_reducible refine wb 3 ?_)
                 (refine wl_boxK hK rfl rfl rfl rfl ?_;clear hK;intro w3 b3 hK))
               |(go_at_call 50;(refine (hK.quiet (kF0.out _ hK.lent)).mono ?_;clear hK;rintro e w' ⟨rfl,hK⟩))
               |(go_at_call 72;(refine (hK.quiet (kW.out _ _ _ _)).mono ?_;clear hK;rintro e w' ⟨rfl,hK⟩))
               |go_big_skip
               |((with_reducible refine wt 107 ?_);(refine wl_eqlP m.dst m.src poseEq rfl rfl rfl rfl ?_;rw [HQ.out]))
               |((with_reducible refine ws 10 ?_);(refine wl_loadPK (Pose.cells m.src) hK rfl rfl rfl (aggT (by decide)) (h:=?_)))
               |((with_reducible refine ws 31 ?_);(refine wl_loadPK (Pose.cells m.src) hK rfl rfl rfl (aggT (by decide)) (h:=?_)))
               |((with_reducible refine ws 47 ?_);(refine wl_loadPK (Pose.cells m.src) hK rfl rfl rfl (aggT (by decide)) (h:=?_)))
               |((with_reducible refine ws 57 ?_);(refine wl_loadPK (Pose.cells m.src) hK rfl rfl rfl (aggT (by decide)) (h:=?_)))
               |((with_reducible refine ws 106 ?_);(refine wl_loadPK (Pose.cells m.src) hK rfl rfl rfl (aggT (by decide)) (h:=?_)))
               |((with_reducible refine ws 29 ?_);(refine wl_loadPK (Pose.cells m.dst) hK rfl rfl rfl (aggT (by decide)) (h:=?_)))
               |((with_reducible refine ws 80 ?_);(refine wl_loadPK (Pose.cells m.dst) hK rfl rfl rfl (aggT (by decide)) (h:=?_)))
               |((with_reducible refine ws 104 ?_);(refine wl_loadPK (Pose.cells m.dst) hK rfl rfl rfl (aggT (by decide)) (h:=?_)))
               |go_big_skip
               |((with_reducible refine wl ?_);refine ldQ ?_)
               |(with_reducible refine en ?_))
              go_ret
              exact ⟨by rw [<-HZ.out];rfl,hK.mod⟩
          · have f1:(m.n == 0)=false:=beq_eq_false_iff_ne.2 z1
            have f1':decide (m.n=0)=false:=decide_eq_false z1
            have HZ:=Lib.hid (show false=L by rw [<-HL2.out,f1'];simp)
            clear z1
            go_enter Tryz.func99,Tryz.ntmps99
            go_wp2_with (first
             |((with_reducible refine wb 2 ?_)
               (refine wl_boxK hK rfl rfl rfl rfl ?_;clear hK;intro w2 b2 hK))
             |((with_reducible refine wb 3 ?_)
               (refine wl_boxK hK rfl rfl rfl rfl ?_;clear hK;intro w3 b3 hK))
             |(go_at_call 50;(refine (hK.quiet (kF0.out _ hK.lent)).mono ?_;clear hK;rintro e w' ⟨rfl,hK⟩))
             |(go_at_call 72;(refine (hK.quiet (kW.out _ _ _ _)).mono ?_;clear hK;rintro e w' ⟨rfl,hK⟩))
             |go_big_skip
             |((with_reducible refine wt 107 ?_);(refine wl_eqlP m.dst m.src poseEq rfl rfl rfl rfl ?_;rw [HQ.out]))
             |((with_reducible refine ws 10 ?_);(refine wl_loadPK (Pose.cells m.src) hK rfl rfl rfl (aggT (by decide)) (h:=?_)))
             |((with_reducible refine ws 31 ?_);(refine wl_loadPK (Pose.cells m.src) hK rfl rfl rfl (aggT (by decide)) (h:=?_)))
             |((with_reducible refine ws 47 ?_);(refine wl_loadPK (Pose.cells m.src) hK rfl rfl rfl (aggT (by decide)) (h:=?_)))
             |((with_reducible refine ws 57 ?_);(refine wl_loadPK (Pose.cells m.src) hK rfl rfl rfl (aggT (by decide)) (h:=?_)))
             |((with_reducible refine ws 106 ?_);(refine wl_loadPK (Pose.cells m.src) hK rfl rfl rfl (aggT (by decide)) (h:=?_)))
             |((with_reducible refine ws 29 ?_);(refine wl_loadPK (Pose.cells m.dst) hK rfl rfl rfl (aggT (by decide)) (h:=?_)))
             |((with_reducible refine ws 80 ?_);(refine wl_loadPK (Pose.cells m.dst) hK rfl rfl rfl (aggT (by decide)) (h:=?_)))
             |((with_reducible refine ws 104 ?_);(refine wl_loadPK (Pose.cells m.dst) hK rfl rfl rfl (aggT (by decide)) (h:=?_)))
             |go_big_skip
             |((with_reducible refine wl ?_);refine ldQ ?_)
             |(with_reducible refine en ?_))
            go_ret
            exact ⟨by rw [<-HZ.out];rfl,hK.mod⟩
        · have e3:(m.kind == 3)=false:=beq_eq_false_iff_ne.2 (by omega)
          have e3':decide (m.kind=3)=false:=decide_eq_false (by omega)
          have e4:(m.kind == 4)=true:=beq_iff_eq.2 k3
          have e4':decide (m.kind=4)=true:=decide_eq_true k3
          by_cases z1:m.n=0
          · have f1:(m.n == 0)=true:=beq_iff_eq.2 z1
            have f1':decide (m.n=0)=true:=decide_eq_true z1
            by_cases z2:m.dir=0
            · have f2:(m.dir == 0)=true:=beq_iff_eq.2 z2
              have f2':decide (m.dir=0)=true:=decide_eq_true z2
              have HZ:=Lib.hid (show q=L by rw [<-HL2.out,f1',f2'];simp)
              clear z1 z2
              go_enter Tryz.func99,Tryz.ntmps99
              go_wp2_with (first
               |((with_reducible refine wb 2 ?_)
                 (refine wl_boxK hK rfl rfl rfl rfl ?_;clear hK;intro w2 b2 hK))
               |((with_reducible refine wb 3 ?_)
                 (refine wl_boxK hK rfl rfl rfl rfl ?_;clear hK;intro w3 b3 hK))
               |(go_at_call 50;(refine (hK.quiet (kF0.out _ hK.lent)).mono ?_;clear hK;rintro e w' ⟨rfl,hK⟩))
               |(go_at_call 72;(refine (hK.quiet (kW.out _ _ _ _)).mono ?_;clear hK;rintro e w' ⟨rfl,hK⟩))
               |go_big_skip
               |((with_reducible refine wt 107 ?_);(refine wl_eqlP m.dst m.src poseEq rfl rfl rfl rfl ?_;rw [HQ.out]))
               |((with_reducible refine ws 10 ?_);(refine wl_loadPK (Pose.cells m.src) hK rfl rfl rfl (aggT (by decide)) (h:=?_)))
               |((with_reducible refine ws 31 ?_);(refine wl_loadPK (Pose.cells m.src) hK rfl rfl rfl (aggT (by decide)) (h:=?_)))
               |((with_reducible refine ws 47 ?_);(refine wl_loadPK (Pose.cells m.src) hK rfl rfl rfl (aggT (by decide)) (h:=?_)))
               |((with_reducible refine ws 57 ?_);(refine wl_loadPK (Pose.cells m.src) hK rfl rfl rfl (aggT (by decide)) (h:=?_)))
               |((with_reducible refine ws 106 ?_);(refine wl_loadPK (Pose.cells m.src) hK rfl rfl rfl (aggT (by decide)) (h:=?_)))
               |((with_reducible refine ws 29 ?_);(refine wl_loadPK (Pose.cells m.dst) hK rfl rfl rfl (aggT (by decide)) (h:=?_)))
               |((with_reducible refine ws 80 ?_);(refine wl_loadPK (Pose.cells m.dst) hK rfl rfl rfl (aggT (by decide)) (h:=?_)))
               |((with_reducible refine ws 104 ?_);(refine wl_loadPK (Pose.cells m.dst) hK rfl rfl rfl (aggT (by decide)) (h:=?_)))
               |go_big_skip
               |((with_reducible refine wl ?_);refine ldQ ?_)
               |(with_reducible refine en ?_))
              go_ret
              exact ⟨by rw [<-HZ.out];rfl,hK.mod⟩
            · have f2:(m.dir == 0)=false:=beq_eq_false_iff_ne.2 z2
              have f2':decide (m.dir=0)=false:=decide_eq_false z2
              have HZ:=Lib.hid (show false=L by rw [<-HL2.out,f1',f2'];simp)
              clear z1 z2
              go_enter Tryz.func99,Tryz.ntmps99
              go_wp2_with (first
               |((with_reducible refine wb 2 ?_)
                 (refine wl_boxK hK rfl rfl rfl rfl ?_;clear hK;intro w2 b2 hK))
               |((with_reducible refine wb 3 ?_)
                 (refine wl_boxK hK rfl rfl rfl rfl ?_;clear hK;intro w3 b3 hK))
               |(go_at_call 50;(refine (hK.quiet (kF0.out _ hK.lent)).mono ?_;clear hK;rintro e w' ⟨rfl,hK⟩))
               |(go_at_call 72;(refine (hK.quiet (kW.out _ _ _ _)).mono ?_;clear hK;rintro e w' ⟨rfl,hK⟩))
               |go_big_skip
               |((with_reducible refine wt 107 ?_);(refine wl_eqlP m.dst m.src poseEq rfl rfl rfl rfl ?_;rw [HQ.out]))
               |((with_reducible refine ws 10 ?_);(refine wl_loadPK (Pose.cells m.src) hK rfl rfl rfl (aggT (by decide)) (h:=?_)))
               |((with_reducible refine ws 31 ?_);(refine wl_loadPK (Pose.cells m.src) hK rfl rfl rfl (aggT (by decide)) (h:=?_)))
               |((with_reducible refine ws 47 ?_);(refine wl_loadPK (Pose.cells m.src) hK rfl rfl rfl (aggT (by decide)) (h:=?_)))
               |((with_reducible refine ws 57 ?_);(refine wl_loadPK (Pose.cells m.src) hK rfl rfl rfl (aggT (by decide)) (h:=?_)))
               |((with_reducible refine ws 106 ?_);(refine wl_loadPK (Pose.cells m.src) hK rfl rfl rfl (aggT (by decide)) (h:=?_)))
               |((with_reducible refine ws 29 ?_);(refine wl_loadPK (Pose.cells m.dst) hK rfl rfl rfl (aggT (by decide)) (h:=?_)))
               |((with_reducible refine ws 80 ?_);(refine wl_loadPK (Pose.cells m.dst) hK rfl rfl rfl (aggT (by decide)) (h:=?_)))
               |((with_reducible refine ws 104 ?_);(refine wl_loadPK (Pose.cells m.dst) hK rfl rfl rfl (aggT (by decide)) (h:=?_)))
               |go_big_skip
               |((with_reducible refine wl ?_);refine ldQ ?_)
               |(with_reducible refine en ?_))
              go_ret
              exact ⟨by rw [<-HZ.out];rfl,hK.mod⟩
          · have f1:(m.n == 0)=false:=beq_eq_false_iff_ne.2 z1
            have f1':decide (m.n=0)=false:=decide_eq_false z1
            have HZ:=Lib.hid (show false=L by rw [<-HL2.out,f1'];simp)
            clear z1
            go_enter Tryz.func99,Tryz.ntmps99
            go_wp2_with (first
             |((with_reducible refine wb 2 ?_)
               (refine wl_boxK hK rfl rfl rfl rfl ?_;clear hK;intro w2 b2 hK))
             |((with_reducible refine wb 3 ?_)
               (refine wl_boxK hK rfl rfl rfl rfl ?_;clear hK;intro w3 b3 hK))
             |(go_at_call 50;(refine (hK.quiet (kF0.out _ hK.lent)).mono ?_;clear hK;rintro e w' ⟨rfl,hK⟩))
             |(go_at_call 72;(refine (hK.quiet (kW.out _ _ _ _)).mono ?_;clear hK;rintro e w' ⟨rfl,hK⟩))
             |go_big_skip
             |((with_reducible refine wt 107 ?_);(refine wl_eqlP m.dst m.src poseEq rfl rfl rfl rfl ?_;rw [HQ.out]))
             |((with_reducible refine ws 10 ?_);(refine wl_loadPK (Pose.cells m.src) hK rfl rfl rfl (aggT (by decide)) (h:=?_)))
             |((with_reducible refine ws 31 ?_);(refine wl_loadPK (Pose.cells m.src) hK rfl rfl rfl (aggT (by decide)) (h:=?_)))
             |((with_reducible refine ws 47 ?_);(refine wl_loadPK (Pose.cells m.src) hK rfl rfl rfl (aggT (by decide)) (h:=?_)))
             |((with_reducible refine ws 57 ?_);(refine wl_loadPK (Pose.cells m.src) hK rfl rfl rfl (aggT (by decide)) (h:=?_)))
             |((with_reducible refine ws 106 ?_);(refine wl_loadPK (Pose.cells m.src) hK rfl rfl rfl (aggT (by decide)) (h:=?_)))
             |((with_reducible refine ws 29 ?_);(refine wl_loadPK (Pose.cells m.dst) hK rfl rfl rfl (aggT (by decide)) (h:=?_)))
             |((with_reducible refine ws 80 ?_);(refine wl_loadPK (Pose.cells m.dst) hK rfl rfl rfl (aggT (by decide)) (h:=?_)))
             |((with_reducible refine ws 104 ?_);(refine wl_loadPK (Pose.cells m.dst) hK rfl rfl rfl (aggT (by decide)) (h:=?_)))
             |go_big_skip
             |((with_reducible refine wl ?_);refine ldQ ?_)
             |(with_reducible refine en ?_))
            go_ret
            exact ⟨by rw [<-HZ.out];rfl,hK.mod⟩
      · rw [if_neg k3] at hL
        have e3:(m.kind == 3)=false:=beq_eq_false_iff_ne.2 (by omega)
        have e3':decide (m.kind=3)=false:=decide_eq_false (by omega)
        have e4:(m.kind == 4)=false:=beq_eq_false_iff_ne.2 (by omega)
        have e4':decide (m.kind=4)=false:=decide_eq_false (by omega)
        have HZ:=Lib.hid hL
        clear hL hf hp k1 k2 k3
        go_enter Tryz.func99,Tryz.ntmps99
        go_wp2_with (first
         |((with_reducible refine wb 2 ?_)
           (refine wl_boxK hK rfl rfl rfl rfl ?_;clear hK;intro w2 b2 hK))
         |((with_reducible refine wb 3 ?_)
           (refine wl_boxK hK rfl rfl rfl rfl ?_;clear hK;intro w3 b3 hK))
         |(go_at_call 50;(refine (hK.quiet (kF0.out _ hK.lent)).mono ?_;clear hK;rintro e w' ⟨rfl,hK⟩))
         |(go_at_call 72;(refine (hK.quiet (kW.out _ _ _ _)).mono ?_;clear hK;rintro e w' ⟨rfl,hK⟩))
         |go_big_skip
         |((with_reducible refine ws 10 ?_);(refine wl_loadPK (Pose.cells m.src) hK rfl rfl rfl (aggT (by decide)) (h:=?_)))
         |((with_reducible refine ws 31 ?_);(refine wl_loadPK (Pose.cells m.src) hK rfl rfl rfl (aggT (by decide)) (h:=?_)))
         |((with_reducible refine ws 47 ?_);(refine wl_loadPK (Pose.cells m.src) hK rfl rfl rfl (aggT (by decide)) (h:=?_)))
         |((with_reducible refine ws 57 ?_);(refine wl_loadPK (Pose.cells m.src) hK rfl rfl rfl (aggT (by decide)) (h:=?_)))
         |((with_reducible refine ws 106 ?_);(refine wl_loadPK (Pose.cells m.src) hK rfl rfl rfl (aggT (by decide)) (h:=?_)))
         |((with_reducible refine ws 29 ?_);(refine wl_loadPK (Pose.cells m.dst) hK rfl rfl rfl (aggT (by decide)) (h:=?_)))
         |((with_reducible refine ws 80 ?_);(refine wl_loadPK (Pose.cells m.dst) hK rfl rfl rfl (aggT (by decide)) (h:=?_)))
         |((with_reducible refine ws 104 ?_);(refine wl_loadPK (Pose.cells m.dst) hK rfl rfl rfl (aggT (by decide)) (h:=?_)))
         |go_big_skip
         |((with_reducible refine wl ?_);refine ldQ ?_)
         |(with_reducible refine en ?_))
        go_ret
        exact ⟨by rw [<-HZ.out];rfl,hK.mod⟩
end Go.Proofs.YtngeeilkpnihmaaGreatDoor
namespace Go.Proofs.YtngeeilkpnihmaaGreatDoor
open Go Go.Sk Go.RowKit
set_option maxRecDepth 100000
theorem moveTy:SliceTy Tryz.prog 139 38 elMove.sz 88 mvZ.cells:=
 SliceTy.mk' (z:=.agg mvZ.cells.toArray) (by kernel_rfl) (by kernel_rfl) rfl rfl
end Go.Proofs.YtngeeilkpnihmaaGreatDoor
