/- The reference's moves, told exactly: Moves. -/
import Derived.Test.YtngeeilkpnihmaaGreatDoorRgBZ
import Derived.Test.YtngeeilkpnihmaaGreatDoorSkCalmZ
set_option linter.all false
namespace Go.Proofs.YtngeeilkpnihmaaGreatDoor
open Go Go.Sk Go.RowKit
set_option maxRecDepth 100000
def rnP (p:Pose) (d j:Nat):Go.Sk.Move:=⟨1,d,j,p,shiftP p d j,0,0⟩
def trnP (p:Pose):Go.Sk.Move:=⟨2,0,0,p,⟨p.at_,!p.down⟩,0,0⟩
def runsP (c:ConfP) (p:Pose) (d:Nat):Nat->Nat->List Go.Sk.Move
 |0,_=>[]
 |f+1,j=>if legalP c (rnP p d j) then rnP p d j::runsP c p d f (j+1) else []
def dirsP (c:ConfP) (p:Pose):Nat->Nat->List Go.Sk.Move
 |0,_=>[]
 |f+1,d=>runsP c p d 16 1++dirsP c p f (d+1)
def movesP (c:ConfP) (p:Pose):List Go.Sk.Move:=if fitsB c p then dirsP c p 4 0++(if legalP c (trnP p) then [trnP p] else []) else []
theorem runs_next {c:ConfP} {p:Pose} {d j:Nat} {l r A:List Go.Sk.Move} (hq:legalP c (rnP p d j)=true) (hj:j<17) (h:l++(runsP c p d (17 - j) j++r)=A):(l++[rnP p d j])++(runsP c p d (17 - (j+1)) (j+1)++r)=A:=by
 rw [<-h,show 17 - j=(17 - (j+1))+1 by omega]
 show _=l++((if legalP c (rnP p d j) then rnP p d j::runsP c p d (17 - (j+1)) (j+1) else [])++r)
 rw [if_pos hq,List.append_assoc]
 rfl
theorem runs_stop {c:ConfP} {p:Pose} {d j:Nat} {l r A:List Go.Sk.Move} (hq:legalP c (rnP p d j)=false) (hj:j<17) (h:l++(runsP c p d (17 - j) j++r)=A):l++r=A:=by
 rw [<-h,show 17 - j=(17 - (j+1))+1 by omega]
 show _=l++((if legalP c (rnP p d j) then rnP p d j::runsP c p d (17 - (j+1)) (j+1) else [])++r)
 rw [if_neg (by rw [hq];decide)]
 rfl
theorem runs_end {c:ConfP} {p:Pose} {d:Nat} {l r A:List Go.Sk.Move} (h:l++(runsP c p d (17 - 17) 17++r)=A):l++r=A:=h
theorem runs_end' {c:ConfP} {p:Pose} {d j:Nat} {l r A:List Go.Sk.Move} (_:1<=j) (h1:j<=17) (h2: ¬ j<17) (h:l++(runsP c p d (17 - j) j++r)=A):l++r=A:=by
 obtain rfl:j=17:=by omega
 exact runs_end h
theorem dirs_next {c:ConfP} {p:Pose} {d:Nat} {l A:List Go.Sk.Move} (hd:d<4) (h:l++dirsP c p (4 - d) d=A):l++(runsP c p d (17 - 1) 1++dirsP c p (4 - (d+1)) (d+1))=A:=by
 rw [<-h,show 4 - d=(4 - (d+1))+1 by omega]
 rfl
set_option maxHeartbeats 8000000 in
theorem ref_movesX {c:ConfV} {p:Pose} {w:World} (hc:Has w (rConf c)) (hz:Sized c) (hp:PoseWf p):Calls Tryz.prog 77 #[.agg c.cells.toArray,.agg p.cells.toArray] w fun e w'=> ∃ (ad:Option Addr) (n cap:Nat),e=.returned (.slice ad n cap)/\n=(movesP c.p p).length/\n<=65/\Turn (rOw 38 elMove (.slice ad n cap) (movesP c.p p)) w w' none':=by
 have hK:=Know.start (L:=[rConf c]) w (by simpa using hc)
 have kF:=Lib.hid (fun (W:World) (h:Has W (rConf c))=>ref_fits (p:=p) h hz)
 have kS:=Lib.hid (fun (W:World) (d n:Int) (hd:0<=d/\d<=3) (hn:0<=n/\n<=16)=>ref_shift (w:=W) hp hd hn)
 have kL:=Lib.hid (fun (W:World) (m:Go.Sk.Move) (h:Has W (rConf c)) (hm:m.src=p)=>ref_legal (m:=m) h hz (by rw [hm];exact hp))
 clear hc hz hp
 replace hK:=hK.nil 38 elMove
 obtain ⟨f,hf⟩: ∃ f,fitsB c.p p=f:=⟨_,rfl⟩
 rw [hf] at kF
 have HF:=Lib.hid hf
 clear hf
 cases f with
 |false=>
  go_enter Tryz.func77,Tryz.ntmps77
  go_wp2_with (first
   |((with_reducible refine wb 2 ?_)
     (refine wl_boxK hK rfl rfl rfl rfl ?_;clear hK;intro w2 b2 hK))
   |((with_reducible refine wb 3 ?_)
     (refine wl_boxK hK rfl rfl rfl rfl ?_;clear hK;intro w3 b3 hK))
   |(go_at_call 50;(refine (hK.quiet (kF.out _ hK.lent)).mono ?_;clear hK;rintro e w' ⟨rfl,hK⟩))
   |go_big_skip
   |go_big_skip
   |((with_reducible refine wl ?_);refine ldQ ?_)
   |(with_reducible refine en ?_))
  go_ret
  have e:movesP c.p p=[]:=by unfold movesP;rw [if_neg (by rw [HF.out];decide)]
  rw [e]
  exact ⟨none,0,0,rfl,rfl,by omega,(hK.sub (.cons _ (.cons _ (List.Sublist.refl _)))).turn⟩
 |true=>
  go_enter Tryz.func77,Tryz.ntmps77
  go_wp2_with (first
   |((with_reducible refine wb 2 ?_)
     (refine wl_boxK hK rfl rfl rfl rfl ?_;clear hK;intro w2 b2 hK))
   |((with_reducible refine wb 3 ?_)
     (refine wl_boxK hK rfl rfl rfl rfl ?_;clear hK;intro w3 b3 hK))
   |(go_at_call 50;(refine (hK.quiet (kF.out _ hK.lent)).mono ?_;clear hK;rintro e w' ⟨rfl,hK⟩))
   |go_big_skip
   |go_big_skip
   |((with_reducible refine wl ?_);refine ldQ ?_)
   |(with_reducible refine en ?_))
  go_loopg [6,5,7,8] 4 (fun k i v5 _ _ wr=> ∃ (d:Nat) (l:List Go.Sk.Move) (ad:Option Addr) (n cap:Nat),i=.int .i64 d/\k=4 - d/\d<=4/\v5=.slice ad n cap/\Hid (n=l.length)/\l.length<=16*d/\Hid (l++dirsP c.p p (4 - d) d=dirsP c.p p 4 0)/\Know w wr none' [rBlk b3 p.cells 36,rBlk b2 c.cells 26,rOw 38 elMove (.slice ad n cap) l] [rConf c])
  case atStart=>exact ⟨0,[],none,0,0,rfl,rfl,by omega,rfl,rfl,by simp,rfl,hK⟩
  case round=>
   clear hK
   obtain ⟨d,l,ad,n,cap,rfl,rfl,hd,rfl,hn,hn2,hL,hK⟩:=hrel
   by_cases hlt:d<4
   · have d1:decide ((d:Int)<=3)=true:=decide_eq_true (by omega)
     go_wp2_with (first
      |go_big_skip
      |go_big_skip
      |((with_reducible refine wl ?_);refine ldQ ?_)
      |(with_reducible refine en ?_))
     go_loopg [7,5,8] 16 (fun k i v5 _ wr=> ∃ (j:Nat) (l:List Go.Sk.Move) (ad:Option Addr) (n cap:Nat),i=.int .i64 j/\k=17 - j/\1<=j/\j<=17/\v5=.slice ad n cap/\Hid (n=l.length)/\l.length+1<=16*d+j/\Hid (l++(runsP c.p p d (17 - j) j++dirsP c.p p (4 - (d+1)) (d+1))=dirsP c.p p 4 0)/\Know w wr none' [rBlk b3 p.cells 36,rBlk b2 c.cells 26,rOw 38 elMove (.slice ad n cap) l] [rConf c])
     case atStart=>exact ⟨1,l,ad,n,cap,rfl,rfl,by omega,by omega,rfl,hn,by omega,dirs_next hlt hL.out,hK⟩
     case round=>
      clear hK hL hn2 hn ad cap n l
      obtain ⟨j,l,ad,n,cap,rfl,rfl,hj0,hj,rfl,hn,hn2,hL,hK⟩:=hrel
      by_cases hjt:j<17
      · have e1:decide ((j:Int)<=16)=true:=decide_eq_true (by omega)
        obtain ⟨x,hx⟩: ∃ x,shiftP p (d:Int) (j:Int)=x:=⟨_,rfl⟩
        have kX:=Lib.hid (fun (W:World)=>kS.out W d j (by omega) (by omega))
        rw [hx] at kX
        obtain ⟨q,hq⟩: ∃ q,legalP c.p ⟨1,d,j,p,x,0,0⟩=q:=⟨_,rfl⟩
        have kQ:=Lib.hid (fun (W:World) (h:Has W (rConf c))=>kL.out W ⟨1,d,j,p,x,0,0⟩ h rfl)
        rw [hq] at kQ
        have HQ:=Lib.hid hq
        have HX:=Lib.hid hx
        clear hx hq
        cases q with
        |true=>
         go_wp2_with (first
          |go_big_skip
          |((with_reducible refine wp_region_calmK (id:=10) hK [2,3,6] [rBlk b3 p.cells 36] (by kernel_rfl) (by kernel_rfl) (by simp) ?_);clear hK;intro w' hK)
          |((with_reducible refine wpG_at 2 ?_);(refine wpG_loadSK (by decide) rfl rfl rfl (aggT (by decide)) (h:=?_);intro w' hM;replace hK:=hK.same hM;clear hM))
          |((with_reducible refine wpG_at 3 ?_);(refine wpG_loadSK (by decide) rfl rfl rfl (aggT (by decide)) (h:=?_);intro w' hM;replace hK:=hK.same hM;clear hM))
          |((with_reducible refine wpG_at 6 ?_);(refine wpG_call (v:=.agg x.cells.toArray) (by decide) rfl (fun _=>by kernel_rfl) (fun W hW=>kX.out W) ?_;intro w' hM;replace hK:=hK.same hM;clear hM))
          |((with_reducible refine wpG_of (by decide) ?_);intro w' hM;replace hK:=hK.same hM;clear hM)
          |(with_reducible refine atEndC (hK.clsG (by simp)) ?_)
          |((with_reducible refine wpG_nil ?_);intro w' hM;replace hK:=hK.same hM;clear hM;refine ⟨by kernel_rfl,?_⟩)
          |((with_reducible refine wt 29 ?_);(refine wl_pure (v:=.agg (Move.cells ⟨1,d,j,p,x,0,0⟩).toArray) rfl (fun W=>by kernel_rfl) ?_))
          |((with_reducible refine wl_at (o:=⟨some 8,.alloc _,_,_,_,_⟩) ?_)
            (refine wl_allocK (z:=.agg (mvZ.cells).toArray) (zs:=mvZ.cells) hK rfl rfl (by kernel_rfl) rfl ?_;clear hK;intro w8 b8 hK))
          |((with_reducible refine wl_at (o:=⟨none,.store 38 _ _,_,_,_,_⟩) ?_)
            (refine wl_storeWK (vs:=Move.cells ⟨1,d,j,p,x,0,0⟩) hK rfl rfl rfl rfl (aggS (by decide)) (elMove.one _) (h:=?_);clear hK;intro w' hK;simp only [z0,z1] at hK))
          |(go_at_call 99;(refine (hK.quiet (kQ.out _ hK.lent)).mono ?_;clear hK;rintro e w' ⟨rfl,hK⟩))
          |((with_reducible refine wt 36 ?_);(refine wl_buildK 38 elMove [⟨1,d,j,p,x,0,0⟩] hK rfl rfl (fun W=>by kernel_rfl) rfl (by decide) ?_;clear hK;intro adb w36 hK))
          |((with_reducible refine wt 37 ?_)
            (refine wl_appK (xs:=l) (ys:=[⟨1,d,j,p,x,0,0⟩]) hK moveTy rfl rfl rfl rfl hK.rd (by simp;unfold maxLen;omega) (by simp;omega) (h:=?_);clear hK;intro ad2 N2 cap2 w37 hN2 hK;have HN2:=Lib.hid hN2;clear hN2;simp only [z0,z1] at hK))
          |go_big_skip
          |((with_reducible refine wl ?_);refine ldQ ?_)
          |(with_reducible refine en ?_))
         go_roundg (17 - (j+1))
         case measure=>omega
         case rel=>exact ⟨j+1,l++[⟨1,d,j,p,x,0,0⟩],ad2,N2,cap2,by go_num,rfl,by omega,by omega,rfl,HN2,by rw [List.length_append];simp only [List.length_cons,List.length_nil];omega,(by have hx:=HX.out;subst hx;exact runs_next HQ.out (by omega) hL.out),hK.sub (.cons _ (.cons _ (List.Sublist.refl _)))⟩
        |false=>
         go_wp2_with (first
          |go_big_skip
          |((with_reducible refine wp_region_calmK (id:=10) hK [2,3,6] [rBlk b3 p.cells 36] (by kernel_rfl) (by kernel_rfl) (by simp) ?_);clear hK;intro w' hK)
          |((with_reducible refine wpG_at 2 ?_);(refine wpG_loadSK (by decide) rfl rfl rfl (aggT (by decide)) (h:=?_);intro w' hM;replace hK:=hK.same hM;clear hM))
          |((with_reducible refine wpG_at 3 ?_);(refine wpG_loadSK (by decide) rfl rfl rfl (aggT (by decide)) (h:=?_);intro w' hM;replace hK:=hK.same hM;clear hM))
          |((with_reducible refine wpG_at 6 ?_);(refine wpG_call (v:=.agg x.cells.toArray) (by decide) rfl (fun _=>by kernel_rfl) (fun W hW=>kX.out W) ?_;intro w' hM;replace hK:=hK.same hM;clear hM))
          |((with_reducible refine wpG_of (by decide) ?_);intro w' hM;replace hK:=hK.same hM;clear hM)
          |(with_reducible refine atEndC (hK.clsG (by simp)) ?_)
          |((with_reducible refine wpG_nil ?_);intro w' hM;replace hK:=hK.same hM;clear hM;refine ⟨by kernel_rfl,?_⟩)
          |((with_reducible refine wt 29 ?_);(refine wl_pure (v:=.agg (Move.cells ⟨1,d,j,p,x,0,0⟩).toArray) rfl (fun W=>by kernel_rfl) ?_))
          |((with_reducible refine wl_at (o:=⟨some 8,.alloc _,_,_,_,_⟩) ?_)
            (refine wl_allocK (z:=.agg (mvZ.cells).toArray) (zs:=mvZ.cells) hK rfl rfl (by kernel_rfl) rfl ?_;clear hK;intro w8 b8 hK))
          |((with_reducible refine wl_at (o:=⟨none,.store 38 _ _,_,_,_,_⟩) ?_)
            (refine wl_storeWK (vs:=Move.cells ⟨1,d,j,p,x,0,0⟩) hK rfl rfl rfl rfl (aggS (by decide)) (elMove.one _) (h:=?_);clear hK;intro w' hK;simp only [z0,z1] at hK))
          |(go_at_call 99;(refine (hK.quiet (kQ.out _ hK.lent)).mono ?_;clear hK;rintro e w' ⟨rfl,hK⟩))
          |go_big_skip
          |((with_reducible refine wl ?_);refine ldQ ?_)
          |(with_reducible refine en ?_))
         replace hK:=hK.sub (.cons _ (List.Sublist.refl _))
         go_roundg (4 - (d+1))
         case measure=>omega
         case rel=>exact ⟨d+1,l,ad,n,cap,by go_num,rfl,by omega,rfl,hn,by omega,(by have hx:=HX.out;subst hx;exact runs_stop HQ.out (by omega) hL.out),hK⟩
      · have e1:decide ((j:Int)<=16)=false:=decide_eq_false (by omega)
        go_wp2_with (first
         |go_big_skip
         |go_big_skip
         |((with_reducible refine wl ?_);refine ldQ ?_)
         |(with_reducible refine en ?_))
        go_roundg (4 - (d+1))
        case measure=>omega
        case rel=>exact ⟨d+1,l,ad,n,cap,by go_num,rfl,by omega,rfl,hn,by omega,runs_end' hj0 hj hjt hL.out,hK⟩
   · obtain rfl:d=4:=by omega
     have hA:l=dirsP c.p p 4 0:=by have h:=hL.out;simpa [dirsP] using h
     have HA:=Lib.hid hA
     clear hA
     obtain ⟨q,hq⟩: ∃ q,legalP c.p ⟨2,0,0,p,⟨p.at_,!p.down⟩,0,0⟩=q:=⟨_,rfl⟩
     have kQ:=Lib.hid (fun (W:World) (h:Has W (rConf c))=>kL.out W ⟨2,0,0,p,⟨p.at_,!p.down⟩,0,0⟩ h rfl)
     rw [hq] at kQ
     have HQ:=Lib.hid hq
     clear hq
     cases q with
     |true=>
      go_wp2_with (first
       |go_big_skip
       |((with_reducible refine wt 40 ?_);(refine wl_loadPK [.int .i64 p.at_.x,.int .i64 p.at_.y] hK rfl rfl rfl (aggT (by decide)) (h:=?_)))
       |((with_reducible refine wt 44 ?_);(refine wl_pure (v:=.agg (Pose.cells ⟨p.at_,!p.down⟩).toArray) rfl (fun W=>by kernel_rfl) ?_))
       |((with_reducible refine wt 45 ?_);(refine wl_pure (v:=.agg (Move.cells ⟨2,0,0,p,⟨p.at_,!p.down⟩,0,0⟩).toArray) rfl (fun W=>by kernel_rfl) ?_))
       |((with_reducible refine wl_at (o:=⟨some 9,.alloc _,_,_,_,_⟩) ?_)
         (refine wl_allocK (z:=.agg (mvZ.cells).toArray) (zs:=mvZ.cells) hK rfl rfl (by kernel_rfl) rfl ?_;clear hK;intro w9 b9 hK))
       |((with_reducible refine wl_at (o:=⟨none,.store 38 _ _,_,_,_,_⟩) ?_)
         (refine wl_storeWK (vs:=Move.cells ⟨2,0,0,p,⟨p.at_,!p.down⟩,0,0⟩) hK rfl rfl rfl rfl (aggS (by decide)) (elMove.one _) (h:=?_);clear hK;intro w' hK;simp only [z0,z1] at hK))
       |(go_at_call 99;(refine (hK.quiet (kQ.out _ hK.lent)).mono ?_;clear hK;rintro e w' ⟨rfl,hK⟩))
       |((with_reducible refine wt 51 ?_);(refine wl_buildK 38 elMove [⟨2,0,0,p,⟨p.at_,!p.down⟩,0,0⟩] hK rfl rfl (fun W=>by kernel_rfl) rfl (by decide) ?_;clear hK;intro adb w51 hK))
       |((with_reducible refine wt 52 ?_)
         (refine wl_appK (xs:=l) (ys:=[⟨2,0,0,p,⟨p.at_,!p.down⟩,0,0⟩]) hK moveTy rfl rfl rfl rfl hK.rd (by simp;unfold maxLen;omega) (by simp;omega) (h:=?_);clear hK;intro ad2 N2 cap2 w52 hN2 hK;have HN2:=Lib.hid hN2;clear hN2;simp only [z0,z1] at hK))
       |go_big_skip
       |((with_reducible refine wl ?_);refine ldQ ?_)
       |(with_reducible refine en ?_))
      go_ret
      have e:movesP c.p p=l++[⟨2,0,0,p,⟨p.at_,!p.down⟩,0,0⟩]:=by unfold movesP;rw [if_pos HF.out,if_pos (show legalP c.p (trnP p)=true from HQ.out),HA.out];rfl
      rw [e]
      exact ⟨ad2,N2,cap2,rfl,HN2.out,by rw [HN2.out,List.length_append];simp only [List.length_cons,List.length_nil];omega,(hK.sub (.cons _ (.cons _ (.cons _ (.cons _ (List.Sublist.refl _)))))).turn⟩
     |false=>
      go_wp2_with (first
       |go_big_skip
       |((with_reducible refine wt 40 ?_);(refine wl_loadPK [.int .i64 p.at_.x,.int .i64 p.at_.y] hK rfl rfl rfl (aggT (by decide)) (h:=?_)))
       |((with_reducible refine wt 44 ?_);(refine wl_pure (v:=.agg (Pose.cells ⟨p.at_,!p.down⟩).toArray) rfl (fun W=>by kernel_rfl) ?_))
       |((with_reducible refine wt 45 ?_);(refine wl_pure (v:=.agg (Move.cells ⟨2,0,0,p,⟨p.at_,!p.down⟩,0,0⟩).toArray) rfl (fun W=>by kernel_rfl) ?_))
       |((with_reducible refine wl_at (o:=⟨some 9,.alloc _,_,_,_,_⟩) ?_)
         (refine wl_allocK (z:=.agg (mvZ.cells).toArray) (zs:=mvZ.cells) hK rfl rfl (by kernel_rfl) rfl ?_;clear hK;intro w9 b9 hK))
       |((with_reducible refine wl_at (o:=⟨none,.store 38 _ _,_,_,_,_⟩) ?_)
         (refine wl_storeWK (vs:=Move.cells ⟨2,0,0,p,⟨p.at_,!p.down⟩,0,0⟩) hK rfl rfl rfl rfl (aggS (by decide)) (elMove.one _) (h:=?_);clear hK;intro w' hK;simp only [z0,z1] at hK))
       |(go_at_call 99;(refine (hK.quiet (kQ.out _ hK.lent)).mono ?_;clear hK;rintro e w' ⟨rfl,hK⟩))
       |go_big_skip
       |((with_reducible refine wl ?_);refine ldQ ?_)
       |(with_reducible refine en ?_))
      go_ret
      have e:movesP c.p p=l:=by unfold movesP;rw [if_pos HF.out,if_neg (by rw [show legalP c.p (trnP p)=false from HQ.out];decide),List.append_nil,HA.out]
      rw [e]
      exact ⟨ad,n,cap,rfl,hn.out,by rw [hn.out];omega,(hK.sub (.cons _ (.cons _ (.cons _ (List.Sublist.refl _))))).turn⟩
end Go.Proofs.YtngeeilkpnihmaaGreatDoor
