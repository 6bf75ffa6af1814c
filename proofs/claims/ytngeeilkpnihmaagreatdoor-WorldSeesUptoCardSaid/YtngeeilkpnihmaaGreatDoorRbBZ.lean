/- Texts of mine that belong together: Rb6, Rb7, Rb8. -/
import Derived.Test.YtngeeilkpnihmaaGreatDoorRbAZ
import Derived.Test.YtngeeilkpnihmaaGreatDoorSkDZ
set_option linter.all false
namespace Go.Proofs.YtngeeilkpnihmaaGreatDoor
open Go Go.Sk Go.RowKit
set_option maxRecDepth 100000
theorem Has.grid {c:ConfP} {p:Nat} {w:World} (h:Has w (rGRID c p)): ∃ cap ad,MayP c/\GridAt w (mkG c p (c.w*c.h).toNat cap ad (kind2 c (homes c))):=by
 obtain ⟨S,h⟩:=h
 obtain ⟨cap,ad,hm,h⟩:=rGRID_p.1 h
 exact ⟨cap,ad,hm,(h.has (r:=rBlk _ _ _) List.mem_cons_self).blk,(h.has (r:=rOw _ _ _ _) (List.mem_cons_of_mem _ List.mem_cons_self)).ord⟩
theorem may_A {c:ConfP} (h:MayP c):c.w*c.h=((c.w*c.h).toNat:Nat):=by
 have:=(nums_iff.1 h.nums).area
 omega
theorem g_fits {c:ConfP} {p:Nat} {x:Pose} {w:World} (h:Has w (rGRID c p)) (hs:Has w stepsR) (hp:PoseWf x):Calls Tryz.prog 106 #[.pointer (some ⟨p,0,none⟩),.agg x.cells.toArray] w (Ret (.bool (fitsB c x)) w):=by
 obtain ⟨cap,ad,hm,ha⟩:=Has.grid h
 have:=gr_fits ha (mkG_ok (may_laid hm) (may_A hm) (kind2_bd hm.ports8 (homes c))) hs hp
 rw [mkG_fits (may_A hm) fun y=>kind2_open (homes_free hm)] at this
 exact this
theorem g_open {c:ConfP} {p:Nat} {x:Cell} {w:World} (h:Has w (rGRID c p)):Calls Tryz.prog 123 #[.pointer (some ⟨p,0,none⟩),.agg x.cells.toArray] w (Ret (.bool (openB c x)) w):=by
 obtain ⟨cap,ad,hm,ha⟩:=Has.grid h
 have:=gr_open (x:=x) ha (mkG_ok (may_laid hm) (may_A hm) (kind2_bd hm.ports8 (homes c)))
 rw [mkG_open (may_A hm) fun y=>kind2_open (homes_free hm)] at this
 exact this
def shiftOk (d n:Int):Bool:=decide (0<=n/\n<=16/\0<=d/\d<=3)
def shiftV (p:Pose) (d n:Int):Pose:=if shiftOk d n then shiftP p d n else poseO
theorem wrap_id {x:Int} (h1: -9223372036854775808<=x) (h2:x<=9223372036854775807):wrap64 x=x:=by
 unfold wrap64
 omega
theorem wrap_wf (x:Int): -9223372036854775808<=wrap64 x/\wrap64 x<=9223372036854775807:=by
 unfold wrap64
 omega
theorem shiftP_wf (p:Pose) (d n:Int):PoseWf (shiftP p d n):=⟨wrap_wf _,wrap_wf _⟩
set_option maxHeartbeats 4000000 in
theorem g_shift {g:Value} {p:Pose} {d n:Int} {w:World} (hs:Has w stepsR) (hp:PoseWf p):Calls Tryz.prog 122 #[g,.agg p.cells.toArray,.int .i64 d,.int .i64 n] w (Ret (.tuple #[.agg (shiftV p d n).cells.toArray,.bool (shiftOk d n)]) w):=by
 have hK:=Know.start (L:=[stepsR]) w (by simpa using hs)
 obtain ⟨⟨x,y⟩,dn⟩:=p
 obtain ⟨⟨h1,h2⟩,h3,h4⟩:=hp
 simp only at h1 h2 h3 h4
 have kW:=Lib.hid (fun (v a b:Int) (W:World)=>gr_within v a b W)
 clear hs
 by_cases hn:0<=n/\n<=16
 · obtain ⟨hn0,hn1⟩:=hn
   have w1:Go.Sk.within n 0 16=true:=by simp [Go.Sk.within];omega
   by_cases hd:0<=d/\d<=3
   · have w2:Go.Sk.within d 0 3=true:=by simp [Go.Sk.within];omega
     have hok:shiftOk d n=true:=decide_eq_true ⟨hn0,hn1,hd.1,hd.2⟩
     have hv:shiftV ⟨⟨x,y⟩,dn⟩ d n=shiftP ⟨⟨x,y⟩,dn⟩ d n:=by unfold shiftV;rw [hok];rfl
     rw [hok,hv]
     clear hok hv
     obtain ⟨P,hP⟩: ∃ P,shiftP ⟨⟨x,y⟩,dn⟩ d n=P:=⟨_,rfl⟩
     have HP:=Lib.hid hP
     rw [hP]
     clear hP
     have hd4:d=0\/d=1\/d=2\/d=3:=by omega
     rcases hd4 with rfl|rfl|rfl|rfl
     all_goals
      go_enter Tryz.func122,Tryz.ntmps122
      go_wp2_with (first
       |((with_reducible refine wb 5 ?_)
         (refine wl_boxK hK rfl rfl rfl rfl ?_;clear hK;intro w5 b5 hK))
       |((with_reducible refine wl_at (o:=⟨some 8,.alloc _,_,_,_,_⟩) ?_)
         (refine wl_allocK (z:=.agg (poseZ3).toArray) (zs:=poseZ3) hK rfl rfl (by kernel_rfl) rfl ?_;clear hK;intro w8 b8 hK))
       |((with_reducible refine tx 3 hK ?_);clear hK;intro w' hK)
       |((with_reducible refine tx 4 hK ?_);clear hK;intro w' hK)
       |(go_at_call 83;(refine (hK.quiet (kW.out _ _ _ _)).mono ?_;clear hK;rintro e w' ⟨rfl,hK⟩))
       |((with_reducible refine wt 26 ?_)
         first
         |(refine wl_loadA (b:=0) (k:=0) (j:=0) (hat:=(hK.lent (r:=stepsR)).at) rfl rfl rfl (scalT (by decide)) (h:=?_))
         |(refine wl_loadA (b:=0) (k:=0) (j:=2) (hat:=(hK.lent (r:=stepsR)).at) rfl rfl rfl (scalT (by decide)) (h:=?_))
         |(refine wl_loadA (b:=0) (k:=0) (j:=4) (hat:=(hK.lent (r:=stepsR)).at) rfl rfl rfl (scalT (by decide)) (h:=?_))
         |(refine wl_loadA (b:=0) (k:=0) (j:=6) (hat:=(hK.lent (r:=stepsR)).at) rfl rfl rfl (scalT (by decide)) (h:=?_)))
       |((with_reducible refine wt 38 ?_)
         first
         |(refine wl_loadA (b:=0) (k:=0) (j:=1) (hat:=(hK.lent (r:=stepsR)).at) rfl rfl rfl (scalT (by decide)) (h:=?_))
         |(refine wl_loadA (b:=0) (k:=0) (j:=3) (hat:=(hK.lent (r:=stepsR)).at) rfl rfl rfl (scalT (by decide)) (h:=?_))
         |(refine wl_loadA (b:=0) (k:=0) (j:=5) (hat:=(hK.lent (r:=stepsR)).at) rfl rfl rfl (scalT (by decide)) (h:=?_))
         |(refine wl_loadA (b:=0) (k:=0) (j:=7) (hat:=(hK.lent (r:=stepsR)).at) rfl rfl rfl (scalT (by decide)) (h:=?_)))
       |((with_reducible refine wl_at (o:=⟨none,.store 3 (.tmp 30) _,_,_,_,_⟩) ?_)
         (refine wl_storeK (v:=.int .i64 P.at_.x) hK rfl rfl rfl (by show Value.int IntKind.i64 _=_;rw [<-HP.out];simp [shiftP,dirX,wrap_id h1 h2]) (sizT (by decide)) rfl (hk:=by simp [Pose.cells]) (h:=?_);clear hK;intro w' hK;replace hK:Know w w' none' [rBlk b8 poseZ3 36,rBlk b5 [.int .i64 P.at_.x,.int .i64 y,.bool dn] 36] [stepsR]:=hK))
       |((with_reducible refine wl_at (o:=⟨none,.store 3 (.tmp 42) _,_,_,_,_⟩) ?_)
         (refine wl_storeK (v:=.int .i64 P.at_.y) hK rfl rfl rfl (by show Value.int IntKind.i64 _=_;rw [<-HP.out];simp [shiftP,dirY,wrap_id h3 h4]) (sizT (by decide)) rfl (hk:=by simp) (h:=?_);clear hK;intro w' hK;replace hK:Know w w' none' [rBlk b8 poseZ3 36,rBlk b5 (Pose.cells ⟨P.at_,dn⟩) 36] [stepsR]:=hK))
       |((with_reducible refine wl_at (o:=⟨none,.store 36 _ _,_,_,_,_⟩) ?_)
         (refine wl_storeWK (vs:=Pose.cells ⟨P.at_,dn⟩) hK rfl rfl rfl rfl (aggS (by decide)) (pose_one _) (h:=?_);clear hK;intro w' hK;simp only [z0,z1] at hK))
       |go_big_skip
       |go_big_skip
       |((with_reducible refine wl ?_);refine ldQ ?_)
       |(with_reducible refine en ?_))
      have hPd:P=⟨P.at_,dn⟩:=by rw [<-HP.out];rfl
      rw [<-hPd] at hK
      exact bodyPost_ret (res_cellS_tmp rfl _ rfl (aggT (by decide)) rfl (hK.blk (b:=b8) (cs:=Pose.cells P)).at0) rfl ⟨rfl,hK.mod⟩
   · have hok:shiftOk d n=false:=decide_eq_false (by omega)
     have hv:shiftV ⟨⟨x,y⟩,dn⟩ d n=poseO:=by unfold shiftV;rw [hok];rfl
     have w2:Go.Sk.within d 0 3=false:=by simp [Go.Sk.within];omega
     rw [hok,hv]
     clear hok hv hd
     go_enter Tryz.func122,Tryz.ntmps122
     go_wp2_with (first
      |((with_reducible refine wb 5 ?_)
        (refine wl_boxK hK rfl rfl rfl rfl ?_;clear hK;intro w5 b5 hK))
      |((with_reducible refine wl_at (o:=⟨some 8,.alloc _,_,_,_,_⟩) ?_)
        (refine wl_allocK (z:=.agg (poseZ3).toArray) (zs:=poseZ3) hK rfl rfl (by kernel_rfl) rfl ?_;clear hK;intro w8 b8 hK))
      |(go_at_call 83;(refine (hK.quiet (kW.out _ _ _ _)).mono ?_;clear hK;rintro e w' ⟨rfl,hK⟩))
      |((with_reducible refine wl_at (o:=⟨none,.store 36 _ _,_,_,_,_⟩) ?_)
        (refine wl_storeWK (vs:=Pose.cells poseO) hK rfl rfl rfl rfl (aggS (by decide)) (pose_one _) (h:=?_);clear hK;intro w' hK;simp only [z0,z1] at hK))
      |go_big_skip
      |go_big_skip
      |((with_reducible refine wl ?_);refine ldQ ?_)
      |(with_reducible refine en ?_))
     exact bodyPost_ret (res_cellS_tmp rfl _ rfl (aggT (by decide)) rfl (hK.blk (b:=b8) (cs:=Pose.cells poseO)).at0) rfl ⟨rfl,hK.mod⟩
 · have hok:shiftOk d n=false:=decide_eq_false (by omega)
   have hv:shiftV ⟨⟨x,y⟩,dn⟩ d n=poseO:=by unfold shiftV;rw [hok];rfl
   have w1:Go.Sk.within n 0 16=false:=by simp [Go.Sk.within];omega
   rw [hok,hv]
   clear hok hv hn
   go_enter Tryz.func122,Tryz.ntmps122
   go_wp2_with (first
    |((with_reducible refine wb 5 ?_)
      (refine wl_boxK hK rfl rfl rfl rfl ?_;clear hK;intro w5 b5 hK))
    |((with_reducible refine wl_at (o:=⟨some 8,.alloc _,_,_,_,_⟩) ?_)
      (refine wl_allocK (z:=.agg (poseZ3).toArray) (zs:=poseZ3) hK rfl rfl (by kernel_rfl) rfl ?_;clear hK;intro w8 b8 hK))
    |(go_at_call 83;(refine (hK.quiet (kW.out _ _ _ _)).mono ?_;clear hK;rintro e w' ⟨rfl,hK⟩))
    |((with_reducible refine wl_at (o:=⟨none,.store 36 _ _,_,_,_,_⟩) ?_)
      (refine wl_storeWK (vs:=Pose.cells poseO) hK rfl rfl rfl rfl (aggS (by decide)) (pose_one _) (h:=?_);clear hK;intro w' hK;simp only [z0,z1] at hK))
    |go_big_skip
    |go_big_skip
    |((with_reducible refine wl ?_);refine ldQ ?_)
    |(with_reducible refine en ?_))
   exact bodyPost_ret (res_cellS_tmp rfl _ rfl (aggT (by decide)) rfl (hK.blk (b:=b8) (cs:=Pose.cells poseO)).at0) rfl ⟨rfl,hK.mod⟩
end Go.Proofs.YtngeeilkpnihmaaGreatDoor
namespace Go.Proofs.YtngeeilkpnihmaaGreatDoor
open Go Go.Sk Go.RowKit
set_option maxRecDepth 100000
set_option maxHeartbeats 1000000 in
theorem g_square {x:Cell} {w:World}:Calls Tryz.prog 138 #[.agg x.cells.toArray] w fun e w'=> ∃ ad,e=.returned (.slice ad 4 4)/\Turn (rOw 34 elCell (.slice ad 4 4) (squareP x)) w w' none':=by
 have hK:=Know.start (L:=[]) w (by simp)
 obtain ⟨x,y⟩:=x
 go_enter Tryz.func138,Tryz.ntmps138
 go_wp2_with (first
  |((with_reducible refine wb 1 ?_)
    (refine wl_boxK hK rfl rfl rfl rfl ?_;clear hK;intro w1 b1 hK))
  |((with_reducible refine wt 23 ?_)
    (refine wl_buildK 34 elCell (squareP ⟨x,y⟩) hK rfl rfl (fun W=>by kernel_rfl) rfl (by decide) ?_;clear hK;intro ad w5 hK))
  |go_big_skip
  |go_big_skip
  |((with_reducible refine wl ?_);refine ldQ ?_)
  |(with_reducible refine en ?_))
 go_ret
 exact ⟨ad,rfl,(hK.sub (.cons_cons _ (.cons _ .slnil))).turn⟩
theorem shiftP_zero {p:Pose} (hp:PoseWf p) (d:Int):shiftP p d 0=p:=by
 obtain ⟨⟨x,y⟩,dn⟩:=p
 obtain ⟨⟨h1,h2⟩,h3,h4⟩:=hp
 simp only at h1 h2 h3 h4
 simp [shiftP,wrap_id h1 h2,wrap_id h3 h4]
set_option maxHeartbeats 4000000 in
theorem g_way {c:ConfP} {p:Nat} {m:Go.Sk.Move} {w:World} (h:Has w (rGRID c p)) (hs:Has w stepsR) (hp:PoseWf m.src) (hn:m.n<=9223372036854775807):Calls Tryz.prog 120 #[.pointer (some ⟨p,0,none⟩),.agg m.cells.toArray] w fun e w'=> ∃ v,e=.returned (.tuple #[v,.bool (legalP c m)])/\Mod none' w w':=by
 have hK:=Know.start (L:=[rGRID c p,stepsR]) w (by
  intro r hr
  simp only [List.mem_cons,List.not_mem_nil,or_false] at hr
  rcases hr with rfl|rfl
  · exact h
  · exact hs)
 have kF:=Lib.hid (fun (W:World) (x:Pose) (h1:Has W (rGRID c p)) (h2:Has W stepsR) (hx:PoseWf x)=>g_fits h1 h2 hx)
 have kO:=Lib.hid (fun (W:World) (x:Cell) (h1:Has W (rGRID c p))=>g_open (x:=x) h1)
 have kF0:=Lib.hid (fun (W:World) (h1:Has W (rGRID c p)) (h2:Has W stepsR)=>g_fits h1 h2 hp)
 have kC0:=Lib.hid (fun (W:World) (h2:Has W stepsR)=>gr_cells (g:=.pointer (some ⟨p,0,none⟩)) h2 hp)
 obtain ⟨L,hL⟩: ∃ L,legalP c m=L:=⟨_,rfl⟩
 have HL:=Lib.hid hL
 rw [hL]
 unfold legalP at hL
 have HP:=Lib.hid hp
 clear h hs
 obtain ⟨f,hf⟩: ∃ f,fitsB c m.src=f:=⟨_,rfl⟩
 rw [hf] at kF0 hL
 cases f with
 |false=>
  have HZ:=Lib.hid (show false=L by rw [<-hL];rfl)
  clear hL hf hp hn
  go_enter Tryz.func120,Tryz.ntmps120
  go_wp2_with (first
   |((with_reducible refine wb 3 ?_)
     (refine wl_boxK hK rfl rfl rfl rfl ?_;clear hK;intro w3 b3 hK))
   |(go_at_call 106;(refine (hK.quiet (kF0.out _ hK.lent hK.lent)).mono ?_;clear hK;rintro e w' ⟨rfl,hK⟩))
   |((with_reducible refine ws 16 ?_);(refine wl_loadPK (Pose.cells m.src) hK rfl rfl rfl (aggT (by decide)) (h:=?_)))
   |((with_reducible refine ws 37 ?_);(refine wl_loadPK (Pose.cells m.src) hK rfl rfl rfl (aggT (by decide)) (h:=?_)))
   |((with_reducible refine ws 47 ?_);(refine wl_loadPK (Pose.cells m.src) hK rfl rfl rfl (aggT (by decide)) (h:=?_)))
   |((with_reducible refine ws 112 ?_);(refine wl_loadPK (Pose.cells m.src) hK rfl rfl rfl (aggT (by decide)) (h:=?_)))
   |((with_reducible refine ws 117 ?_);(refine wl_loadPK (Pose.cells m.src) hK rfl rfl rfl (aggT (by decide)) (h:=?_)))
   |((with_reducible refine ws 74 ?_);(refine wl_loadPK (Pose.cells m.dst) hK rfl rfl rfl (aggT (by decide)) (h:=?_)))
   |((with_reducible refine ws 97 ?_);(refine wl_loadPK (Pose.cells m.dst) hK rfl rfl rfl (aggT (by decide)) (h:=?_)))
   |((with_reducible refine ws 115 ?_);(refine wl_loadPK (Pose.cells m.dst) hK rfl rfl rfl (aggT (by decide)) (h:=?_)))
   |((with_reducible refine ws 82 ?_);(refine wl_loadPK (Cell.cells m.src.at_) hK rfl rfl rfl (aggT (by decide)) (h:=?_)))
   |((with_reducible refine ws 100 ?_);(refine wl_loadPK (Cell.cells m.src.at_) hK rfl rfl rfl (aggT (by decide)) (h:=?_)))
   |go_big_skip
   |go_big_skip
   |((with_reducible refine wl ?_);refine ldQ ?_)
   |(with_reducible refine en ?_))
  go_ret2
  first|exact ⟨_,by rw [<-HZ.out];rfl,hK.mod⟩|exact ⟨⟨_,by rw [<-HZ.out];rfl⟩,hK.mod⟩|exact hK.mod
 |true=>
  simp only [Bool.true_and] at hL
  by_cases k1:m.kind=1
  · have e1:(m.kind == 1)=true:=beq_iff_eq.2 k1
    have e1':(m.kind !=1)=false:=by simp [k1]
    have e1'':decide (m.kind=1)=true:=decide_eq_true k1
    rw [if_pos k1] at hL
    have HL2:=Lib.hid hL
    have HF:=Lib.hid hf
    have H0:=Lib.hid (shiftP_zero hp m.dir)
    have kH:=Lib.hid (fun (W:World) (j:Int) (h2:Has W stepsR)=>g_shift (g:=.pointer (some ⟨p,0,none⟩)) (d:=m.dir) (n:=j) h2 hp)
    clear hL hf hp
    go_enter Tryz.func120,Tryz.ntmps120
    go_wp2_with (first
     |((with_reducible refine wb 3 ?_)
       (refine wl_boxK hK rfl rfl rfl rfl ?_;clear hK;intro w3 b3 hK))
     |(go_at_call 106;(refine (hK.quiet (kF0.out _ hK.lent hK.lent)).mono ?_;clear hK;rintro e w' ⟨rfl,hK⟩))
     |((with_reducible refine wl_at (o:=⟨some 7,.alloc _,_,_,_,_⟩) ?_)
       (refine wl_allocK (z:=.agg (poseZ3).toArray) (zs:=poseZ3) hK rfl rfl (by kernel_rfl) rfl ?_;clear hK;intro w7 b7 hK))
     |((with_reducible refine wl_at (o:=⟨none,.store 36 _ _,_,_,_,_⟩) ?_)
       (refine wl_storeWK (vs:=Pose.cells m.src) hK rfl rfl rfl rfl (aggS (by decide)) (pose_one _) (h:=?_);clear hK;intro w' hK;simp only [z0,z1] at hK))
     |((with_reducible refine ws 16 ?_);(refine wl_loadPK (Pose.cells m.src) hK rfl rfl rfl (aggT (by decide)) (h:=?_)))
     |((with_reducible refine ws 37 ?_);(refine wl_loadPK (Pose.cells m.src) hK rfl rfl rfl (aggT (by decide)) (h:=?_)))
     |((with_reducible refine ws 47 ?_);(refine wl_loadPK (Pose.cells m.src) hK rfl rfl rfl (aggT (by decide)) (h:=?_)))
     |((with_reducible refine ws 112 ?_);(refine wl_loadPK (Pose.cells m.src) hK rfl rfl rfl (aggT (by decide)) (h:=?_)))
     |((with_reducible refine ws 117 ?_);(refine wl_loadPK (Pose.cells m.src) hK rfl rfl rfl (aggT (by decide)) (h:=?_)))
     |((with_reducible refine ws 74 ?_);(refine wl_loadPK (Pose.cells m.dst) hK rfl rfl rfl (aggT (by decide)) (h:=?_)))
     |((with_reducible refine ws 97 ?_);(refine wl_loadPK (Pose.cells m.dst) hK rfl rfl rfl (aggT (by decide)) (h:=?_)))
     |((with_reducible refine ws 115 ?_);(refine wl_loadPK (Pose.cells m.dst) hK rfl rfl rfl (aggT (by decide)) (h:=?_)))
     |((with_reducible refine ws 82 ?_);(refine wl_loadPK (Cell.cells m.src.at_) hK rfl rfl rfl (aggT (by decide)) (h:=?_)))
     |((with_reducible refine ws 100 ?_);(refine wl_loadPK (Cell.cells m.src.at_) hK rfl rfl rfl (aggT (by decide)) (h:=?_)))
     |go_big_skip
     |go_big_skip
     |((with_reducible refine wl ?_);refine ldQ ?_)
     |(with_reducible refine en ?_))
    replace hK:=hK.nil 34 elCell
    go_loopg [4,5,6,8,9,10] 20 (fun k _ _ l i _ _ wr=> ∃ (j:Nat) (last:Pose) (ad:Option Addr) (cap:Nat) (xs:List Cell),i=.int .i64 j/\l=.slice ad xs.length cap/\k=20 - j/\j<=17/\(j:Int)<=max 0 (m.n+1)/\xs.length<=2*j/\Hid (last=shiftP m.src m.dir ((j:Int) - 1)\/(j=0/\last=m.src))/\Hid (∀ t:Nat,t<j->shiftOk m.dir t=true/\fitsB c (shiftP m.src m.dir t)=true)/\
     Know w wr none' [rOw 34 elCell (.slice ad xs.length cap) xs,rBlk b7 last.cells 36,rBlk b3 m.cells 38] [rGRID c p,stepsR])
    case atStart=>exact ⟨0,m.src,none,0,[],rfl,rfl,rfl,by omega,by omega,by simp,Lib.hid (.inr ⟨rfl,rfl⟩),Lib.hid (fun t h=>absurd h (Nat.not_lt_zero t)),hK⟩
    case round=>
     clear hK
     obtain ⟨j,last,ad,cap,xs,rfl,rfl,rfl,hj,hjn,hxl,hLa,hP,hK⟩:=hrel
     by_cases hlt:(j:Int)<=m.n
     · have d1:decide ((j:Int)<=m.n)=true:=decide_eq_true hlt
       obtain ⟨ok,hok⟩: ∃ ok,shiftOk m.dir j=ok:=⟨_,rfl⟩
       have kHj:=Lib.hid (fun (W:World) (h2:Has W stepsR)=>kH.out W j h2)
       rw [hok] at kHj
       cases ok with
       |false=>
        have hv:shiftV m.src m.dir j=poseO:=by unfold shiftV;rw [hok];rfl
        rw [hv] at kHj
        have HZ:=Lib.hid (show false=L by
         rw [<-HL2.out]
         have hno: ¬ ((1<=m.n/\m.n<=16)/\(0<=m.dir/\m.dir<=3)):=by
          have:=of_decide_eq_false hok
          omega
         by_cases h1:1<=m.n/\m.n<=16
         · have h2: ¬ (0<=m.dir/\m.dir<=3):=fun e=>hno ⟨h1,e⟩
           rw [decide_eq_false h2,Bool.and_false];rfl
         · rw [decide_eq_false h1];rfl)
        clear hok hv
        go_wp2_with (first
         |(go_at_call 122;(refine (hK.quiet (kHj.out _ hK.lent)).mono ?_;clear hK;rintro e w' ⟨rfl,hK⟩))
         |((with_reducible refine wl_at (o:=⟨some 9,.alloc _,_,_,_,_⟩) ?_)
           (refine wl_allocK (z:=.agg (poseZ3).toArray) (zs:=poseZ3) hK rfl rfl (by kernel_rfl) rfl ?_;clear hK;intro w9 b9 hK))
         |((with_reducible refine wl_at (o:=⟨none,.store 36 _ _,_,_,_,_⟩) ?_)
           (refine wl_storeWK (vs:=Pose.cells poseO) hK rfl rfl rfl rfl (aggS (by decide)) (pose_one _) (h:=?_);clear hK;intro w' hK;simp only [z0,z1] at hK))
         |((with_reducible refine ws 16 ?_);(refine wl_loadPK (Pose.cells m.src) hK rfl rfl rfl (aggT (by decide)) (h:=?_)))
         |((with_reducible refine ws 37 ?_);(refine wl_loadPK (Pose.cells m.src) hK rfl rfl rfl (aggT (by decide)) (h:=?_)))
         |((with_reducible refine ws 47 ?_);(refine wl_loadPK (Pose.cells m.src) hK rfl rfl rfl (aggT (by decide)) (h:=?_)))
         |((with_reducible refine ws 112 ?_);(refine wl_loadPK (Pose.cells m.src) hK rfl rfl rfl (aggT (by decide)) (h:=?_)))
         |((with_reducible refine ws 117 ?_);(refine wl_loadPK (Pose.cells m.src) hK rfl rfl rfl (aggT (by decide)) (h:=?_)))
         |((with_reducible refine ws 74 ?_);(refine wl_loadPK (Pose.cells m.dst) hK rfl rfl rfl (aggT (by decide)) (h:=?_)))
         |((with_reducible refine ws 97 ?_);(refine wl_loadPK (Pose.cells m.dst) hK rfl rfl rfl (aggT (by decide)) (h:=?_)))
         |((with_reducible refine ws 115 ?_);(refine wl_loadPK (Pose.cells m.dst) hK rfl rfl rfl (aggT (by decide)) (h:=?_)))
         |((with_reducible refine ws 82 ?_);(refine wl_loadPK (Cell.cells m.src.at_) hK rfl rfl rfl (aggT (by decide)) (h:=?_)))
         |((with_reducible refine ws 100 ?_);(refine wl_loadPK (Cell.cells m.src.at_) hK rfl rfl rfl (aggT (by decide)) (h:=?_)))
         |go_big_skip
         |go_big_skip
         |((with_reducible refine wl ?_);refine ldQ ?_)
         |(with_reducible refine en ?_))
        go_ret2
        first|exact ⟨_,by rw [<-HZ.out];rfl,hK.mod⟩|exact ⟨⟨_,by rw [<-HZ.out];rfl⟩,hK.mod⟩|exact hK.mod
       |true=>
        have hj16:j<=16:=by have:=of_decide_eq_true hok;omega
        obtain ⟨x,hx⟩: ∃ x,shiftP m.src m.dir j=x:=⟨_,rfl⟩
        have hv:shiftV m.src m.dir j=x:=by unfold shiftV;rw [hok,<-hx];rfl
        have hxw:PoseWf x:=by rw [<-hx];exact shiftP_wf _ _ _
        rw [hv] at kHj
        obtain ⟨f,hf⟩: ∃ f,fitsB c x=f:=⟨_,rfl⟩
        have kFx:=Lib.hid (fun (W:World) (h1:Has W (rGRID c p)) (h2:Has W stepsR)=>kF.out W x h1 h2 hxw)
        have kCx:=Lib.hid (fun (W:World) (h2:Has W stepsR)=>gr_cells (g:=.pointer (some ⟨p,0,none⟩)) h2 hxw)
        rw [hf] at kFx
        cases f with
        |false=>
         have HZ:=Lib.hid (show false=L by
          rw [<-HL2.out]
          by_cases h1:1<=m.n/\m.n<=16
          · have h2:wayP c m.src m.dir m.n.toNat=false:=by
             unfold wayP
             rw [List.all_eq_false]
             by_cases h0:j=0
             · subst h0
               rw [show ((0:Nat):Int)=0 from rfl,H0.out] at hx
               rw [<-hx,HF.out] at hf
               cases hf
             · refine ⟨j - 1,List.mem_range.2 (by omega),?_⟩
               rw [show ((j - 1:Nat):Int)+1=j by omega,hx,hf]
               decide
            rw [h2,Bool.and_false]
          · rw [decide_eq_false h1];rfl)
         clear hok hv hx hf
         go_wp2_with (first
          |(go_at_call 122;(refine (hK.quiet (kHj.out _ hK.lent)).mono ?_;clear hK;rintro e w' ⟨rfl,hK⟩))
          |(go_at_call 106;(refine (hK.quiet (kFx.out _ hK.lent hK.lent)).mono ?_;clear hK;rintro e w' ⟨rfl,hK⟩))
          |((with_reducible refine wl_at (o:=⟨some 9,.alloc _,_,_,_,_⟩) ?_)
            (refine wl_allocK (z:=.agg (poseZ3).toArray) (zs:=poseZ3) hK rfl rfl (by kernel_rfl) rfl ?_;clear hK;intro w9 b9 hK))
          |((with_reducible refine wl_at (o:=⟨none,.store 36 _ _,_,_,_,_⟩) ?_)
            (refine wl_storeWK (vs:=Pose.cells x) hK rfl rfl rfl rfl (aggS (by decide)) (pose_one _) (h:=?_);clear hK;intro w' hK;simp only [z0,z1] at hK))
          |((with_reducible refine ws 16 ?_);(refine wl_loadPK (Pose.cells m.src) hK rfl rfl rfl (aggT (by decide)) (h:=?_)))
          |((with_reducible refine ws 37 ?_);(refine wl_loadPK (Pose.cells m.src) hK rfl rfl rfl (aggT (by decide)) (h:=?_)))
          |((with_reducible refine ws 47 ?_);(refine wl_loadPK (Pose.cells m.src) hK rfl rfl rfl (aggT (by decide)) (h:=?_)))
          |((with_reducible refine ws 112 ?_);(refine wl_loadPK (Pose.cells m.src) hK rfl rfl rfl (aggT (by decide)) (h:=?_)))
          |((with_reducible refine ws 117 ?_);(refine wl_loadPK (Pose.cells m.src) hK rfl rfl rfl (aggT (by decide)) (h:=?_)))
          |((with_reducible refine ws 74 ?_);(refine wl_loadPK (Pose.cells m.dst) hK rfl rfl rfl (aggT (by decide)) (h:=?_)))
          |((with_reducible refine ws 97 ?_);(refine wl_loadPK (Pose.cells m.dst) hK rfl rfl rfl (aggT (by decide)) (h:=?_)))
          |((with_reducible refine ws 115 ?_);(refine wl_loadPK (Pose.cells m.dst) hK rfl rfl rfl (aggT (by decide)) (h:=?_)))
          |((with_reducible refine ws 82 ?_);(refine wl_loadPK (Cell.cells m.src.at_) hK rfl rfl rfl (aggT (by decide)) (h:=?_)))
          |((with_reducible refine ws 100 ?_);(refine wl_loadPK (Cell.cells m.src.at_) hK rfl rfl rfl (aggT (by decide)) (h:=?_)))
          |go_big_skip
          |go_big_skip
          |((with_reducible refine wl ?_);refine ldQ ?_)
          |(with_reducible refine en ?_))
         go_ret2
         first|exact ⟨_,by rw [<-HZ.out];rfl,hK.mod⟩|exact ⟨⟨_,by rw [<-HZ.out];rfl⟩,hK.mod⟩|exact hK.mod
        |true=>
         have HP2:=Lib.hid (show ∀ t:Nat,t<j+1->shiftOk m.dir t=true/\fitsB c (shiftP m.src m.dir t)=true from fun t ht=>by
          by_cases e:t=j
          · subst e;exact ⟨hok,by rw [hx,hf]⟩
          · exact hP.out t (by omega))
         have HLa:=Lib.hid (show x=shiftP m.src m.dir ((j+1:Nat) - 1:Int)\/(j+1=0/\x=m.src) from .inl (by rw [<-hx];congr 1;omega))
         clear hok hv hx hf
         go_wp2_with (first
          |(go_at_call 122;(refine (hK.quiet (kHj.out _ hK.lent)).mono ?_;clear hK;rintro e w' ⟨rfl,hK⟩))
          |(go_at_call 106;(refine (hK.quiet (kFx.out _ hK.lent hK.lent)).mono ?_;clear hK;rintro e w' ⟨rfl,hK⟩))
          |((with_reducible refine wl_at (o:=⟨some 9,.alloc _,_,_,_,_⟩) ?_)
            (refine wl_allocK (z:=.agg (poseZ3).toArray) (zs:=poseZ3) hK rfl rfl (by kernel_rfl) rfl ?_;clear hK;intro w9 b9 hK))
          |((with_reducible refine wl_at (o:=⟨none,.store 36 _ (.tmp 52),_,_,_,_⟩) ?_)
            (refine wl_storeWK (vs:=Pose.cells x) hK rfl rfl rfl rfl (aggS (by decide)) (pose_one _) (h:=?_);clear hK;intro w' hK;simp only [z0,z1] at hK))
          |((with_reducible refine wl_at (o:=⟨none,.store 36 _ (.tmp 67),_,_,_,_⟩) ?_)
            (refine wl_storeWK (vs:=Pose.cells x) hK rfl rfl rfl rfl (aggS (by decide)) (pose_one _) (h:=?_);clear hK;intro w' hK;simp only [z0,z1] at hK))
          |(go_at_call 107;(refine (kCx.out _ hK.lent).mono ?_;rintro e w' ⟨adc,rfl,hT⟩;replace hK:=hK.push1 hT;clear hT))
          |((with_reducible refine wt 66 ?_)
            (refine wl_appK (xs:=xs) (ys:=x.both) hK cellTy rfl rfl rfl rfl hK.rd (by simp [Pose.both];unfold maxLen;omega) (by simp [Pose.both];omega) (h:=?_);clear hK;intro ad2 N2 cap2 w20 hN2 hK;subst hN2;simp only [z0,z1] at hK))
          |((with_reducible refine ws 16 ?_);(refine wl_loadPK (Pose.cells m.src) hK rfl rfl rfl (aggT (by decide)) (h:=?_)))
          |((with_reducible refine ws 37 ?_);(refine wl_loadPK (Pose.cells m.src) hK rfl rfl rfl (aggT (by decide)) (h:=?_)))
          |((with_reducible refine ws 47 ?_);(refine wl_loadPK (Pose.cells m.src) hK rfl rfl rfl (aggT (by decide)) (h:=?_)))
          |((with_reducible refine ws 112 ?_);(refine wl_loadPK (Pose.cells m.src) hK rfl rfl rfl (aggT (by decide)) (h:=?_)))
          |((with_reducible refine ws 117 ?_);(refine wl_loadPK (Pose.cells m.src) hK rfl rfl rfl (aggT (by decide)) (h:=?_)))
          |((with_reducible refine ws 74 ?_);(refine wl_loadPK (Pose.cells m.dst) hK rfl rfl rfl (aggT (by decide)) (h:=?_)))
          |((with_reducible refine ws 97 ?_);(refine wl_loadPK (Pose.cells m.dst) hK rfl rfl rfl (aggT (by decide)) (h:=?_)))
          |((with_reducible refine ws 115 ?_);(refine wl_loadPK (Pose.cells m.dst) hK rfl rfl rfl (aggT (by decide)) (h:=?_)))
          |((with_reducible refine ws 82 ?_);(refine wl_loadPK (Cell.cells m.src.at_) hK rfl rfl rfl (aggT (by decide)) (h:=?_)))
          |((with_reducible refine ws 100 ?_);(refine wl_loadPK (Cell.cells m.src.at_) hK rfl rfl rfl (aggT (by decide)) (h:=?_)))
          |go_big_skip
          |go_big_skip
          |((with_reducible refine wl ?_);refine ldQ ?_)
          |(with_reducible refine en ?_))
         go_roundg (20 - (j+1))
         case measure=>omega
         case rel=>exact ⟨j+1,x,ad2,cap2,xs++x.both,by go_num,by first|rfl|simp,rfl,by omega,by omega,by simp [Pose.both];omega,HLa,HP2,hK.sub (.cons _ (.cons _ (List.Sublist.refl _)))⟩
     · have d1:decide ((j:Int)<=m.n)=false:=decide_eq_false hlt
       have HZ:=Lib.hid (show (decide (1<=m.n) && decide (m.dst=last))=L by
        rw [<-HL2.out]
        by_cases h1:1<=m.n
        · have hjn2:(j:Int)=m.n+1:=by omega
          have h16:=(of_decide_eq_true (hP.out (j - 1) (by omega)).1)
          have hlast:last=shiftP m.src m.dir m.n:=by
           rcases hLa.out with h|⟨h,_⟩
           · rw [h];congr 1;omega
           · omega
          have hway:wayP c m.src m.dir m.n.toNat=true:=by
           unfold wayP
           rw [List.all_eq_true]
           intro t ht
           have ht:=List.mem_range.1 ht
           have:=(hP.out (t+1) (by omega)).2
           rw [show ((t+1:Nat):Int)=(t:Int)+1 by omega] at this
           exact this
          rw [hway,<-hlast,decide_eq_true h1,decide_eq_true (show 1<=m.n/\m.n<=16 by omega),decide_eq_true (show 0<=m.dir/\m.dir<=3 by omega)]
          simp
        · rw [decide_eq_false h1,decide_eq_false (show ¬ (1<=m.n/\m.n<=16) by omega)]
          rfl)
       obtain ⟨q,hq⟩: ∃ q,decide (m.dst=last)=q:=⟨_,rfl⟩
       rw [hq] at HZ
       have HQ:=Lib.hid hq
       clear hq
       by_cases h1:1<=m.n
       · have d2:decide (1<=m.n)=true:=decide_eq_true h1
         rw [d2,Bool.true_and] at HZ
         go_wp2_with (first
          |((with_reducible refine tx 17 hK ?_);clear hK;intro w' hK)
          |((with_reducible refine wt 76 ?_);(refine wl_eqlP m.dst last poseEq rfl rfl rfl rfl ?_;rw [HQ.out]))
          |((with_reducible refine ws 16 ?_);(refine wl_loadPK (Pose.cells m.src) hK rfl rfl rfl (aggT (by decide)) (h:=?_)))
          |((with_reducible refine ws 37 ?_);(refine wl_loadPK (Pose.cells m.src) hK rfl rfl rfl (aggT (by decide)) (h:=?_)))
          |((with_reducible refine ws 47 ?_);(refine wl_loadPK (Pose.cells m.src) hK rfl rfl rfl (aggT (by decide)) (h:=?_)))
          |((with_reducible refine ws 112 ?_);(refine wl_loadPK (Pose.cells m.src) hK rfl rfl rfl (aggT (by decide)) (h:=?_)))
          |((with_reducible refine ws 117 ?_);(refine wl_loadPK (Pose.cells m.src) hK rfl rfl rfl (aggT (by decide)) (h:=?_)))
          |((with_reducible refine ws 74 ?_);(refine wl_loadPK (Pose.cells m.dst) hK rfl rfl rfl (aggT (by decide)) (h:=?_)))
          |((with_reducible refine ws 97 ?_);(refine wl_loadPK (Pose.cells m.dst) hK rfl rfl rfl (aggT (by decide)) (h:=?_)))
          |((with_reducible refine ws 115 ?_);(refine wl_loadPK (Pose.cells m.dst) hK rfl rfl rfl (aggT (by decide)) (h:=?_)))
          |((with_reducible refine ws 82 ?_);(refine wl_loadPK (Cell.cells m.src.at_) hK rfl rfl rfl (aggT (by decide)) (h:=?_)))
          |((with_reducible refine ws 100 ?_);(refine wl_loadPK (Cell.cells m.src.at_) hK rfl rfl rfl (aggT (by decide)) (h:=?_)))
          |go_big_skip
          |go_big_skip
          |((with_reducible refine wl ?_);refine ldQ ?_)
          |(with_reducible refine en ?_))
         go_ret2
         first|exact ⟨_,by rw [<-HZ.out];rfl,hK.mod⟩|exact ⟨⟨_,by rw [<-HZ.out];rfl⟩,hK.mod⟩|exact hK.mod
       · have d2:decide (1<=m.n)=false:=decide_eq_false h1
         rw [d2,Bool.false_and] at HZ
         go_wp2_with (first
          |((with_reducible refine tx 17 hK ?_);clear hK;intro w' hK)
          |((with_reducible refine ws 16 ?_);(refine wl_loadPK (Pose.cells m.src) hK rfl rfl rfl (aggT (by decide)) (h:=?_)))
          |((with_reducible refine ws 37 ?_);(refine wl_loadPK (Pose.cells m.src) hK rfl rfl rfl (aggT (by decide)) (h:=?_)))
          |((with_reducible refine ws 47 ?_);(refine wl_loadPK (Pose.cells m.src) hK rfl rfl rfl (aggT (by decide)) (h:=?_)))
          |((with_reducible refine ws 112 ?_);(refine wl_loadPK (Pose.cells m.src) hK rfl rfl rfl (aggT (by decide)) (h:=?_)))
          |((with_reducible refine ws 117 ?_);(refine wl_loadPK (Pose.cells m.src) hK rfl rfl rfl (aggT (by decide)) (h:=?_)))
          |((with_reducible refine ws 74 ?_);(refine wl_loadPK (Pose.cells m.dst) hK rfl rfl rfl (aggT (by decide)) (h:=?_)))
          |((with_reducible refine ws 97 ?_);(refine wl_loadPK (Pose.cells m.dst) hK rfl rfl rfl (aggT (by decide)) (h:=?_)))
          |((with_reducible refine ws 115 ?_);(refine wl_loadPK (Pose.cells m.dst) hK rfl rfl rfl (aggT (by decide)) (h:=?_)))
          |((with_reducible refine ws 82 ?_);(refine wl_loadPK (Cell.cells m.src.at_) hK rfl rfl rfl (aggT (by decide)) (h:=?_)))
          |((with_reducible refine ws 100 ?_);(refine wl_loadPK (Cell.cells m.src.at_) hK rfl rfl rfl (aggT (by decide)) (h:=?_)))
          |go_big_skip
          |go_big_skip
          |((with_reducible refine wl ?_);refine ldQ ?_)
          |(with_reducible refine en ?_))
         go_ret2
         first|exact ⟨_,by rw [<-HZ.out];rfl,hK.mod⟩|exact ⟨⟨_,by rw [<-HZ.out];rfl⟩,hK.mod⟩|exact hK.mod
  · have e1:(m.kind == 1)=false:=beq_eq_false_iff_ne.2 k1
    have e1':(m.kind !=1)=true:=bne_iff_ne.2 k1
    have e1'':decide (m.kind=1)=false:=decide_eq_false k1
    rw [if_neg k1] at hL
    by_cases hz:m.dir=0/\m.n=0
    · obtain ⟨z1,z2⟩:=hz
      have b1:(m.dir !=0)=false:=by simp [z1]
      have b2:(m.n !=0)=false:=by simp [z2]
      by_cases k2:m.kind=2
      · have e2:(m.kind == 2)=true:=beq_iff_eq.2 k2
        have e2':decide (m.kind=2)=true:=decide_eq_true k2
        rw [if_pos k2] at hL
        obtain ⟨q,hq⟩: ∃ q,decide (m.dst=⟨m.src.at_,!m.src.down⟩)=q:=⟨_,rfl⟩
        have HQ:=Lib.hid hq
        rw [hq,z1,z2] at hL
        obtain ⟨sq,hsq⟩: ∃ sq,squareP m.src.at_=sq:=⟨_,rfl⟩
        have hsl:sq.length=4:=by rw [<-hsq];rfl
        have kS:=Lib.hid (fun (W:World)=>g_square (x:=m.src.at_) (w:=W))
        rw [hsq] at kS hL
        have HL2:=Lib.hid hL
        clear hL hf hp hn hq hsq
        go_enter Tryz.func120,Tryz.ntmps120
        go_wp2_with (first
         |((with_reducible refine wb 3 ?_)
           (refine wl_boxK hK rfl rfl rfl rfl ?_;clear hK;intro w3 b3 hK))
         |(go_at_call 106;(refine (hK.quiet (kF0.out _ hK.lent hK.lent)).mono ?_;clear hK;rintro e w' ⟨rfl,hK⟩))
         |(go_at_call 138;(refine (kS.out _).mono ?_;rintro e w' ⟨ads,rfl,hT⟩;replace hK:=hK.push1 hT;clear hT))
         |((with_reducible refine ws 16 ?_);(refine wl_loadPK (Pose.cells m.src) hK rfl rfl rfl (aggT (by decide)) (h:=?_)))
         |((with_reducible refine ws 37 ?_);(refine wl_loadPK (Pose.cells m.src) hK rfl rfl rfl (aggT (by decide)) (h:=?_)))
         |((with_reducible refine ws 47 ?_);(refine wl_loadPK (Pose.cells m.src) hK rfl rfl rfl (aggT (by decide)) (h:=?_)))
         |((with_reducible refine ws 112 ?_);(refine wl_loadPK (Pose.cells m.src) hK rfl rfl rfl (aggT (by decide)) (h:=?_)))
         |((with_reducible refine ws 117 ?_);(refine wl_loadPK (Pose.cells m.src) hK rfl rfl rfl (aggT (by decide)) (h:=?_)))
         |((with_reducible refine ws 74 ?_);(refine wl_loadPK (Pose.cells m.dst) hK rfl rfl rfl (aggT (by decide)) (h:=?_)))
         |((with_reducible refine ws 97 ?_);(refine wl_loadPK (Pose.cells m.dst) hK rfl rfl rfl (aggT (by decide)) (h:=?_)))
         |((with_reducible refine ws 115 ?_);(refine wl_loadPK (Pose.cells m.dst) hK rfl rfl rfl (aggT (by decide)) (h:=?_)))
         |((with_reducible refine ws 82 ?_);(refine wl_loadPK (Cell.cells m.src.at_) hK rfl rfl rfl (aggT (by decide)) (h:=?_)))
         |((with_reducible refine ws 100 ?_);(refine wl_loadPK (Cell.cells m.src.at_) hK rfl rfl rfl (aggT (by decide)) (h:=?_)))
         |go_big_skip
         |go_big_skip
         |((with_reducible refine wl ?_);refine ldQ ?_)
         |(with_reducible refine en ?_))
        go_loopg [4,5,13,86] 4 (fun k _ _ _ i wr=> ∃ j:Nat,i=.int .i64 j/\k=4 - j/\j<=4/\Hid (∀ (t:Nat) (y:Cell),t<j->sq[t]?=some y->openB c y=true)/\Know w wr none' [rOw 34 elCell (.slice ads 4 4) sq,rBlk b3 m.cells 38] [rGRID c p,stepsR])
        case atStart=>exact ⟨0,rfl,rfl,by omega,Lib.hid (fun t y h=>absurd h (Nat.not_lt_zero t)),hK⟩
        case round=>
         clear hK
         obtain ⟨j,rfl,rfl,hj,hP,hK⟩:=hrel
         by_cases hlt:j<4
         · obtain ⟨y,hy⟩: ∃ y,sq[j]?=some y:=⟨_,List.getElem?_eq_getElem (by omega)⟩
           have HY:=Lib.hid hy
           obtain ⟨o,ho⟩: ∃ o,openB c y=o:=⟨_,rfl⟩
           have kOy:=Lib.hid (fun (W:World) (h1:Has W (rGRID c p))=>kO.out W y h1)
           rw [ho] at kOy
           cases o with
           |true=>
            have HP2:=Lib.hid (show ∀ (t:Nat) (z:Cell),t<j+1->sq[t]?=some z->openB c z=true from fun t z ht hz=>by
             by_cases e:t=j
             · subst e;rw [HY.out] at hz;cases hz;exact ho
             · exact hP.out t z (by omega) hz)
            clear hy ho
            go_wp2_with (first
             |((with_reducible refine wt 88 ?_)
               (refine wl_ixK hK rfl rfl rfl rfl cellTy.und cellTy.size (h:=?_);intro b88 k88 hat88))
             |((with_reducible refine wl_at (o:=⟨some 13,.alloc _,_,_,_,_⟩) ?_)
               (refine wl_allocK (z:=.agg (cellZ).toArray) (zs:=cellZ) hK rfl rfl (by kernel_rfl) rfl ?_;clear hK;intro w13 b13 hK))
             |((with_reducible refine wl_at (o:=⟨none,.store 34 _ _,_,_,_,_⟩) ?_)
               (refine wl_storeWK (vs:=Cell.cells y) hK rfl rfl rfl rfl (aggS (by decide)) (elCell.one y) (h:=?_);clear hK;intro w' hK;simp only [z0,z1] at hK))
             |(go_at_call 123;(refine (hK.quiet (kOy.out _ hK.lent)).mono ?_;clear hK;rintro e w' ⟨rfl,hK⟩))
             |go_big_skip
             |go_big_skip
             |((with_reducible refine wl ?_);refine ldQ ?_)
             |(with_reducible refine en ?_))
            go_roundg (4 - (j+1))
            case measure=>omega
            case rel=>exact ⟨j+1,by go_num,rfl,by omega,HP2,hK.sub (.cons _ (List.Sublist.refl _))⟩
           |false=>
            have HZ:=Lib.hid (show false=L by
             rw [<-HL2.out]
             have:sq.all (openB c)=false:=by
              rw [List.all_eq_false]
              exact ⟨y,List.mem_of_getElem? HY.out,by rw [ho];decide⟩
             rw [this]
             rfl)
            clear hy ho
            go_wp2_with (first
             |((with_reducible refine wt 88 ?_)
               (refine wl_ixK hK rfl rfl rfl rfl cellTy.und cellTy.size (h:=?_);intro b88 k88 hat88))
             |((with_reducible refine wl_at (o:=⟨some 13,.alloc _,_,_,_,_⟩) ?_)
               (refine wl_allocK (z:=.agg (cellZ).toArray) (zs:=cellZ) hK rfl rfl (by kernel_rfl) rfl ?_;clear hK;intro w13 b13 hK))
             |((with_reducible refine wl_at (o:=⟨none,.store 34 _ _,_,_,_,_⟩) ?_)
               (refine wl_storeWK (vs:=Cell.cells y) hK rfl rfl rfl rfl (aggS (by decide)) (elCell.one y) (h:=?_);clear hK;intro w' hK;simp only [z0,z1] at hK))
             |(go_at_call 123;(refine (hK.quiet (kOy.out _ hK.lent)).mono ?_;clear hK;rintro e w' ⟨rfl,hK⟩))
             |go_big_skip
             |go_big_skip
             |((with_reducible refine wl ?_);refine ldQ ?_)
             |(with_reducible refine en ?_))
            go_ret2
            first|exact ⟨_,by rw [<-HZ.out];rfl,hK.mod⟩|exact ⟨⟨_,by rw [<-HZ.out];rfl⟩,hK.mod⟩|exact hK.mod
         · obtain rfl:j=4:=by omega
           have HZ:=Lib.hid (show q=L by
            rw [<-HL2.out]
            have:sq.all (openB c)=true:=by
             rw [List.all_eq_true]
             intro y hy
             obtain ⟨t,ht⟩:=List.getElem?_of_mem hy
             exact hP.out t y (by have:=(List.getElem?_eq_some_iff.1 ht).1;omega) ht
            rw [this]
            simp)
           go_wp2_with (first
            |((with_reducible refine tx 26 hK ?_);clear hK;intro w' hK)
            |((with_reducible refine ws 100 ?_);(refine wl_loadPK [.int .i64 m.src.at_.x,.int .i64 m.src.at_.y] hK rfl rfl rfl (aggT (by decide)) (h:=?_)))
            |((with_reducible refine wt 106 ?_);(refine wl_eqlP m.dst ⟨m.src.at_,!m.src.down⟩ poseEq rfl rfl rfl rfl ?_;rw [HQ.out]))
            |((with_reducible refine ws 16 ?_);(refine wl_loadPK (Pose.cells m.src) hK rfl rfl rfl (aggT (by decide)) (h:=?_)))
            |((with_reducible refine ws 37 ?_);(refine wl_loadPK (Pose.cells m.src) hK rfl rfl rfl (aggT (by decide)) (h:=?_)))
            |((with_reducible refine ws 47 ?_);(refine wl_loadPK (Pose.cells m.src) hK rfl rfl rfl (aggT (by decide)) (h:=?_)))
            |((with_reducible refine ws 112 ?_);(refine wl_loadPK (Pose.cells m.src) hK rfl rfl rfl (aggT (by decide)) (h:=?_)))
            |((with_reducible refine ws 117 ?_);(refine wl_loadPK (Pose.cells m.src) hK rfl rfl rfl (aggT (by decide)) (h:=?_)))
            |((with_reducible refine ws 74 ?_);(refine wl_loadPK (Pose.cells m.dst) hK rfl rfl rfl (aggT (by decide)) (h:=?_)))
            |((with_reducible refine ws 97 ?_);(refine wl_loadPK (Pose.cells m.dst) hK rfl rfl rfl (aggT (by decide)) (h:=?_)))
            |((with_reducible refine ws 115 ?_);(refine wl_loadPK (Pose.cells m.dst) hK rfl rfl rfl (aggT (by decide)) (h:=?_)))
            |((with_reducible refine ws 82 ?_);(refine wl_loadPK (Cell.cells m.src.at_) hK rfl rfl rfl (aggT (by decide)) (h:=?_)))
            |((with_reducible refine ws 100 ?_);(refine wl_loadPK (Cell.cells m.src.at_) hK rfl rfl rfl (aggT (by decide)) (h:=?_)))
            |go_big_skip
            |go_big_skip
            |((with_reducible refine wl ?_);refine ldQ ?_)
            |(with_reducible refine en ?_))
           go_ret2
           first|exact ⟨_,by rw [<-HZ.out];rfl,hK.mod⟩|exact ⟨⟨_,by rw [<-HZ.out];rfl⟩,hK.mod⟩|exact hK.mod
      · have e2:(m.kind == 2)=false:=beq_eq_false_iff_ne.2 k2
        have e2':decide (m.kind=2)=false:=decide_eq_false k2
        rw [if_neg k2] at hL
        by_cases k3:m.kind=3\/m.kind=4
        · rw [if_pos k3] at hL
          obtain ⟨q,hq⟩: ∃ q,decide (m.dst=m.src)=q:=⟨_,rfl⟩
          have HZ:=Lib.hid (show q=L by rw [<-hL,<-hq];simp [z1,z2])
          have HQ:=Lib.hid hq
          clear hL hf hp hn hq
          rcases k3 with k3|k3
          · have e3:(m.kind == 3)=true:=beq_iff_eq.2 k3
            have e3':decide (m.kind=3)=true:=decide_eq_true k3
            go_enter Tryz.func120,Tryz.ntmps120
            go_wp2_with (first
             |((with_reducible refine wb 3 ?_)
               (refine wl_boxK hK rfl rfl rfl rfl ?_;clear hK;intro w3 b3 hK))
             |(go_at_call 106;(refine (hK.quiet (kF0.out _ hK.lent hK.lent)).mono ?_;clear hK;rintro e w' ⟨rfl,hK⟩))
             |((with_reducible refine wp_region_stableK (id:=29) hK [5,7,8] [rBlk b3 m.cells 38] (by kernel_rfl) (by kernel_rfl) (by simp) (by kernel_rfl) ?_);clear hK;intro w' hK)
             |(with_reducible refine wpC_of ?_)
             |(with_reducible refine atEndC (hK.cls (by simp)) ?_)
             |((with_reducible refine wpC_end' ?_);refine wpC_nil ⟨by kernel_rfl,stays_loadSP (Pose.cells m.dst) rfl rfl rfl rfl (aggT (by decide)) (rest:=stays_loadSP (Pose.cells m.src) rfl rfl rfl rfl (aggT (by decide)) (rest:=stays_eqlP m.dst m.src poseEq HQ.out rfl rfl rfl rfl rfl rfl (rest:=stays_nil))),?_⟩)
             |(go_at_call 107;(refine (kC0.out _ hK.lent).mono ?_;rintro e w' ⟨adc,rfl,hT⟩;replace hK:=hK.push1 hT;clear hT))
             |((with_reducible refine wt 118 ?_);(refine wl_eqlP m.dst m.src poseEq rfl rfl rfl rfl ?_;rw [HQ.out]))
             |((with_reducible refine ws 16 ?_);(refine wl_loadPK (Pose.cells m.src) hK rfl rfl rfl (aggT (by decide)) (h:=?_)))
             |((with_reducible refine ws 37 ?_);(refine wl_loadPK (Pose.cells m.src) hK rfl rfl rfl (aggT (by decide)) (h:=?_)))
             |((with_reducible refine ws 47 ?_);(refine wl_loadPK (Pose.cells m.src) hK rfl rfl rfl (aggT (by decide)) (h:=?_)))
             |((with_reducible refine ws 112 ?_);(refine wl_loadPK (Pose.cells m.src) hK rfl rfl rfl (aggT (by decide)) (h:=?_)))
             |((with_reducible refine ws 117 ?_);(refine wl_loadPK (Pose.cells m.src) hK rfl rfl rfl (aggT (by decide)) (h:=?_)))
             |((with_reducible refine ws 74 ?_);(refine wl_loadPK (Pose.cells m.dst) hK rfl rfl rfl (aggT (by decide)) (h:=?_)))
             |((with_reducible refine ws 97 ?_);(refine wl_loadPK (Pose.cells m.dst) hK rfl rfl rfl (aggT (by decide)) (h:=?_)))
             |((with_reducible refine ws 115 ?_);(refine wl_loadPK (Pose.cells m.dst) hK rfl rfl rfl (aggT (by decide)) (h:=?_)))
             |((with_reducible refine ws 82 ?_);(refine wl_loadPK (Cell.cells m.src.at_) hK rfl rfl rfl (aggT (by decide)) (h:=?_)))
             |((with_reducible refine ws 100 ?_);(refine wl_loadPK (Cell.cells m.src.at_) hK rfl rfl rfl (aggT (by decide)) (h:=?_)))
             |go_big_skip
             |go_big_skip
             |((with_reducible refine wl ?_);refine ldQ ?_)
             |(with_reducible refine en ?_))
            go_ret2
            first|exact ⟨_,by rw [<-HZ.out];rfl,hK.mod⟩|exact ⟨⟨_,by rw [<-HZ.out];rfl⟩,hK.mod⟩|exact hK.mod
          · have e3:(m.kind == 3)=false:=beq_eq_false_iff_ne.2 (by omega)
            have e3':decide (m.kind=3)=false:=decide_eq_false (by omega)
            have e4:(m.kind == 4)=true:=beq_iff_eq.2 k3
            have e4':decide (m.kind=4)=true:=decide_eq_true k3
            go_enter Tryz.func120,Tryz.ntmps120
            go_wp2_with (first
             |((with_reducible refine wb 3 ?_)
               (refine wl_boxK hK rfl rfl rfl rfl ?_;clear hK;intro w3 b3 hK))
             |(go_at_call 106;(refine (hK.quiet (kF0.out _ hK.lent hK.lent)).mono ?_;clear hK;rintro e w' ⟨rfl,hK⟩))
             |((with_reducible refine wp_region_stableK (id:=29) hK [5,7,8] [rBlk b3 m.cells 38] (by kernel_rfl) (by kernel_rfl) (by simp) (by kernel_rfl) ?_);clear hK;intro w' hK)
             |(with_reducible refine wpC_of ?_)
             |(with_reducible refine atEndC (hK.cls (by simp)) ?_)
             |((with_reducible refine wpC_end' ?_);refine wpC_nil ⟨by kernel_rfl,stays_loadSP (Pose.cells m.dst) rfl rfl rfl rfl (aggT (by decide)) (rest:=stays_loadSP (Pose.cells m.src) rfl rfl rfl rfl (aggT (by decide)) (rest:=stays_eqlP m.dst m.src poseEq HQ.out rfl rfl rfl rfl rfl rfl (rest:=stays_nil))),?_⟩)
             |(go_at_call 107;(refine (kC0.out _ hK.lent).mono ?_;rintro e w' ⟨adc,rfl,hT⟩;replace hK:=hK.push1 hT;clear hT))
             |((with_reducible refine wt 118 ?_);(refine wl_eqlP m.dst m.src poseEq rfl rfl rfl rfl ?_;rw [HQ.out]))
             |((with_reducible refine ws 16 ?_);(refine wl_loadPK (Pose.cells m.src) hK rfl rfl rfl (aggT (by decide)) (h:=?_)))
             |((with_reducible refine ws 37 ?_);(refine wl_loadPK (Pose.cells m.src) hK rfl rfl rfl (aggT (by decide)) (h:=?_)))
             |((with_reducible refine ws 47 ?_);(refine wl_loadPK (Pose.cells m.src) hK rfl rfl rfl (aggT (by decide)) (h:=?_)))
             |((with_reducible refine ws 112 ?_);(refine wl_loadPK (Pose.cells m.src) hK rfl rfl rfl (aggT (by decide)) (h:=?_)))
             |((with_reducible refine ws 117 ?_);(refine wl_loadPK (Pose.cells m.src) hK rfl rfl rfl (aggT (by decide)) (h:=?_)))
             |((with_reducible refine ws 74 ?_);(refine wl_loadPK (Pose.cells m.dst) hK rfl rfl rfl (aggT (by decide)) (h:=?_)))
             |((with_reducible refine ws 97 ?_);(refine wl_loadPK (Pose.cells m.dst) hK rfl rfl rfl (aggT (by decide)) (h:=?_)))
             |((with_reducible refine ws 115 ?_);(refine wl_loadPK (Pose.cells m.dst) hK rfl rfl rfl (aggT (by decide)) (h:=?_)))
             |((with_reducible refine ws 82 ?_);(refine wl_loadPK (Cell.cells m.src.at_) hK rfl rfl rfl (aggT (by decide)) (h:=?_)))
             |((with_reducible refine ws 100 ?_);(refine wl_loadPK (Cell.cells m.src.at_) hK rfl rfl rfl (aggT (by decide)) (h:=?_)))
             |go_big_skip
             |go_big_skip
             |((with_reducible refine wl ?_);refine ldQ ?_)
             |(with_reducible refine en ?_))
            go_ret2
            first|exact ⟨_,by rw [<-HZ.out];rfl,hK.mod⟩|exact ⟨⟨_,by rw [<-HZ.out];rfl⟩,hK.mod⟩|exact hK.mod
        · rw [if_neg k3] at hL
          have e3:(m.kind == 3)=false:=beq_eq_false_iff_ne.2 (by omega)
          have e3':decide (m.kind=3)=false:=decide_eq_false (by omega)
          have e4:(m.kind == 4)=false:=beq_eq_false_iff_ne.2 (by omega)
          have e4':decide (m.kind=4)=false:=decide_eq_false (by omega)
          have HZ:=Lib.hid hL
          clear hL hf hp hn
          go_enter Tryz.func120,Tryz.ntmps120
          go_wp2_with (first
           |((with_reducible refine wb 3 ?_)
             (refine wl_boxK hK rfl rfl rfl rfl ?_;clear hK;intro w3 b3 hK))
           |(go_at_call 106;(refine (hK.quiet (kF0.out _ hK.lent hK.lent)).mono ?_;clear hK;rintro e w' ⟨rfl,hK⟩))
           |((with_reducible refine ws 16 ?_);(refine wl_loadPK (Pose.cells m.src) hK rfl rfl rfl (aggT (by decide)) (h:=?_)))
           |((with_reducible refine ws 37 ?_);(refine wl_loadPK (Pose.cells m.src) hK rfl rfl rfl (aggT (by decide)) (h:=?_)))
           |((with_reducible refine ws 47 ?_);(refine wl_loadPK (Pose.cells m.src) hK rfl rfl rfl (aggT (by decide)) (h:=?_)))
           |((with_reducible refine ws 112 ?_);(refine wl_loadPK (Pose.cells m.src) hK rfl rfl rfl (aggT (by decide)) (h:=?_)))
           |((with_reducible refine ws 117 ?_);(refine wl_loadPK (Pose.cells m.src) hK rfl rfl rfl (aggT (by decide)) (h:=?_)))
           |((with_reducible refine ws 74 ?_);(refine wl_loadPK (Pose.cells m.dst) hK rfl rfl rfl (aggT (by decide)) (h:=?_)))
           |((with_reducible refine ws 97 ?_);(refine wl_loadPK (Pose.cells m.dst) hK rfl rfl rfl (aggT (by decide)) (h:=?_)))
           |((with_reducible refine ws 115 ?_);(refine wl_loadPK (Pose.cells m.dst) hK rfl rfl rfl (aggT (by decide)) (h:=?_)))
           |((with_reducible refine ws 82 ?_);(refine wl_loadPK (Cell.cells m.src.at_) hK rfl rfl rfl (aggT (by decide)) (h:=?_)))
           |((with_reducible refine ws 100 ?_);(refine wl_loadPK (Cell.cells m.src.at_) hK rfl rfl rfl (aggT (by decide)) (h:=?_)))
           |go_big_skip
           |go_big_skip
           |((with_reducible refine wl ?_);refine ldQ ?_)
           |(with_reducible refine en ?_))
          go_ret2
          first|exact ⟨_,by rw [<-HZ.out];rfl,hK.mod⟩|exact ⟨⟨_,by rw [<-HZ.out];rfl⟩,hK.mod⟩|exact hK.mod
    · have HZ:=Lib.hid (show false=L by
       rw [<-hL]
       by_cases k2:m.kind=2
       · rw [if_pos k2]
         by_cases h1:m.n=0<;>by_cases h2:m.dir=0<;>simp_all
       · rw [if_neg k2]
         by_cases k3:m.kind=3\/m.kind=4
         · rw [if_pos k3]
           by_cases h1:m.n=0<;>by_cases h2:m.dir=0<;>simp_all
         · rw [if_neg k3])
      clear hL hf hp hn
      by_cases z1:m.dir=0
      · have b1:(m.dir !=0)=false:=by simp [z1]
        have b2:(m.n !=0)=true:=bne_iff_ne.2 (fun e=>hz ⟨z1,e⟩)
        clear hz
        go_enter Tryz.func120,Tryz.ntmps120
        go_wp2_with (first
         |((with_reducible refine wb 3 ?_)
           (refine wl_boxK hK rfl rfl rfl rfl ?_;clear hK;intro w3 b3 hK))
         |(go_at_call 106;(refine (hK.quiet (kF0.out _ hK.lent hK.lent)).mono ?_;clear hK;rintro e w' ⟨rfl,hK⟩))
         |((with_reducible refine ws 16 ?_);(refine wl_loadPK (Pose.cells m.src) hK rfl rfl rfl (aggT (by decide)) (h:=?_)))
         |((with_reducible refine ws 37 ?_);(refine wl_loadPK (Pose.cells m.src) hK rfl rfl rfl (aggT (by decide)) (h:=?_)))
         |((with_reducible refine ws 47 ?_);(refine wl_loadPK (Pose.cells m.src) hK rfl rfl rfl (aggT (by decide)) (h:=?_)))
         |((with_reducible refine ws 112 ?_);(refine wl_loadPK (Pose.cells m.src) hK rfl rfl rfl (aggT (by decide)) (h:=?_)))
         |((with_reducible refine ws 117 ?_);(refine wl_loadPK (Pose.cells m.src) hK rfl rfl rfl (aggT (by decide)) (h:=?_)))
         |((with_reducible refine ws 74 ?_);(refine wl_loadPK (Pose.cells m.dst) hK rfl rfl rfl (aggT (by decide)) (h:=?_)))
         |((with_reducible refine ws 97 ?_);(refine wl_loadPK (Pose.cells m.dst) hK rfl rfl rfl (aggT (by decide)) (h:=?_)))
         |((with_reducible refine ws 115 ?_);(refine wl_loadPK (Pose.cells m.dst) hK rfl rfl rfl (aggT (by decide)) (h:=?_)))
         |((with_reducible refine ws 82 ?_);(refine wl_loadPK (Cell.cells m.src.at_) hK rfl rfl rfl (aggT (by decide)) (h:=?_)))
         |((with_reducible refine ws 100 ?_);(refine wl_loadPK (Cell.cells m.src.at_) hK rfl rfl rfl (aggT (by decide)) (h:=?_)))
         |go_big_skip
         |go_big_skip
         |((with_reducible refine wl ?_);refine ldQ ?_)
         |(with_reducible refine en ?_))
        go_ret2
        first|exact ⟨_,by rw [<-HZ.out];rfl,hK.mod⟩|exact ⟨⟨_,by rw [<-HZ.out];rfl⟩,hK.mod⟩|exact hK.mod
      · have b1:(m.dir !=0)=true:=bne_iff_ne.2 z1
        clear hz
        go_enter Tryz.func120,Tryz.ntmps120
        go_wp2_with (first
         |((with_reducible refine wb 3 ?_)
           (refine wl_boxK hK rfl rfl rfl rfl ?_;clear hK;intro w3 b3 hK))
         |(go_at_call 106;(refine (hK.quiet (kF0.out _ hK.lent hK.lent)).mono ?_;clear hK;rintro e w' ⟨rfl,hK⟩))
         |((with_reducible refine ws 16 ?_);(refine wl_loadPK (Pose.cells m.src) hK rfl rfl rfl (aggT (by decide)) (h:=?_)))
         |((with_reducible refine ws 37 ?_);(refine wl_loadPK (Pose.cells m.src) hK rfl rfl rfl (aggT (by decide)) (h:=?_)))
         |((with_reducible refine ws 47 ?_);(refine wl_loadPK (Pose.cells m.src) hK rfl rfl rfl (aggT (by decide)) (h:=?_)))
         |((with_reducible refine ws 112 ?_);(refine wl_loadPK (Pose.cells m.src) hK rfl rfl rfl (aggT (by decide)) (h:=?_)))
         |((with_reducible refine ws 117 ?_);(refine wl_loadPK (Pose.cells m.src) hK rfl rfl rfl (aggT (by decide)) (h:=?_)))
         |((with_reducible refine ws 74 ?_);(refine wl_loadPK (Pose.cells m.dst) hK rfl rfl rfl (aggT (by decide)) (h:=?_)))
         |((with_reducible refine ws 97 ?_);(refine wl_loadPK (Pose.cells m.dst) hK rfl rfl rfl (aggT (by decide)) (h:=?_)))
         |((with_reducible refine ws 115 ?_);(refine wl_loadPK (Pose.cells m.dst) hK rfl rfl rfl (aggT (by decide)) (h:=?_)))
         |((with_reducible refine ws 82 ?_);(refine wl_loadPK (Cell.cells m.src.at_) hK rfl rfl rfl (aggT (by decide)) (h:=?_)))
         |((with_reducible refine ws 100 ?_);(refine wl_loadPK (Cell.cells m.src.at_) hK rfl rfl rfl (aggT (by decide)) (h:=?_)))
         |go_big_skip
         |go_big_skip
         |((with_reducible refine wl ?_);refine ldQ ?_)
         |(with_reducible refine en ?_))
        go_ret2
        first|exact ⟨_,by rw [<-HZ.out];rfl,hK.mod⟩|exact ⟨⟨_,by rw [<-HZ.out];rfl⟩,hK.mod⟩|exact hK.mod
theorem g_legal {c:ConfP} {p:Nat} {m:Go.Sk.Move} {w:World} (h:Has w (rGRID c p)) (hs:Has w stepsR) (hp:PoseWf m.src) (hn:m.n<=9223372036854775807):Calls Tryz.prog 90 #[.pointer (some ⟨p,0,none⟩),.agg m.cells.toArray] w (Ret (.bool (legalP c m)) w):=by
 have hK:=Know.start (L:=[rGRID c p,stepsR]) w (by
  intro r hr
  simp only [List.mem_cons,List.not_mem_nil,or_false] at hr
  rcases hr with rfl|rfl
  · exact h
  · exact hs)
 have kW:=Lib.hid (fun (W:World) (h1:Has W (rGRID c p)) (h2:Has W stepsR)=>g_way h1 h2 hp hn)
 clear h hs
 go_enter Tryz.func90,Tryz.ntmps90
 go_wp2_with (first
  |((with_reducible refine wb 3 ?_)
    (refine wl_boxK hK rfl rfl rfl rfl ?_;clear hK;intro w3 b3 hK))
  |(go_at_call 120;(refine (kW.out _ hK.lent hK.lent).mono ?_;rintro e w' ⟨v,rfl,hM⟩;replace hK:=hK.same hM;clear hM))
  |go_big_skip
  |go_big_skip
  |((with_reducible refine wl ?_);refine ldQ ?_)
  |(with_reducible refine en ?_))
 go_ret
 exact ⟨rfl,hK.mod⟩
end Go.Proofs.YtngeeilkpnihmaaGreatDoor
namespace Go.Proofs.YtngeeilkpnihmaaGreatDoor
open Go Go.Sk Go.RowKit
set_option maxRecDepth 100000
theorem t_cut {a:Int} {w:World}:Calls Tryz.prog 137 #[.int .i64 a] w (Ret (.int .i64 (cutP a)) w):=by
 have hK:Know w w none' [] []:=Know.start (L:=[]) w (by simp)
 go_enter Tryz.func137,Tryz.ntmps137
 go_wp2_with (first
  |((with_reducible refine wl_at (o:=⟨_,.call {callee:=.builtin .min,args:= #[_,_],argTypes:=_},_,_,_,_⟩) ?_);refine wl_min2 rfl rfl rfl rfl ?_)
  |((with_reducible refine wl_at (o:=⟨_,.call {callee:=.builtin .max,args:= #[_,_],argTypes:=_},_,_,_,_⟩) ?_);refine wl_max2 rfl rfl rfl rfl ?_)
  |((with_reducible refine wl_at (o:=⟨_,.call {callee:=.builtin .min,args:= #[_,_,_],argTypes:=_},_,_,_,_⟩) ?_);refine wl_min3 rfl rfl rfl rfl rfl ?_)
  |go_big_skip
  |go_big_skip
  |((with_reducible refine wl ?_);refine ldQ ?_)
  |(with_reducible refine en ?_))
 go_ret
 exact ⟨rfl,hK.mod⟩
theorem t_both {a b:Int} {w:World}:Calls Tryz.prog 119 #[.int .i64 a,.int .i64 b] w (Ret (.agg #[.int .i64 (cutP a),.int .i64 (cutP b)]) w):=by
 have hK:Know w w none' [] []:=Know.start (L:=[]) w (by simp)
 have k1:=Lib.hid (fun (W:World)=>t_cut (a:=a) (w:=W))
 have k2:=Lib.hid (fun (W:World)=>t_cut (a:=b) (w:=W))
 obtain ⟨x,hx⟩: ∃ x,cutP a=x:=⟨_,rfl⟩
 obtain ⟨y,hy⟩: ∃ y,cutP b=y:=⟨_,rfl⟩
 rw [hx] at k1
 rw [hy] at k2
 rw [hx,hy]
 clear hx hy
 go_enter Tryz.func119,Tryz.ntmps119
 go_wp2_with (first
  |((with_reducible refine wl_at (o:=⟨some 4,.alloc _,_,_,_,_⟩) ?_)
    (refine wl_allocK (z:=.agg ([.int .i64 0,.int .i64 0]).toArray) (zs:=[.int .i64 0,.int .i64 0]) hK rfl rfl (by kernel_rfl) rfl ?_;clear hK;intro w4 b4 hK))
  |(go_at_call 137;first
     |(with_reducible refine (hK.quiet (k1.out _)).mono ?_;clear hK;rintro e w' ⟨rfl,hK⟩)
     |(with_reducible refine (hK.quiet (k2.out _)).mono ?_;clear hK;rintro e w' ⟨rfl,hK⟩))
  |((with_reducible refine wl_at (o:=⟨none,.store 193 _ _,_,_,_,_⟩) ?_)
    (refine wl_storeWK (vs:=[.int .i64 x,.int .i64 y]) hK rfl rfl rfl rfl (aggS (by decide)) (fun v hv=>by simp at hv;rcases hv with rfl|rfl<;>rfl) (h:=?_);clear hK;intro w' hK;simp only [z0,z1] at hK))
  |go_big_skip
  |go_big_skip
  |((with_reducible refine wl ?_);refine ldQ ?_)
  |(with_reducible refine en ?_))
 exact bodyPost_ret (res_cellS rfl _ rfl (aggT (by decide)) rfl (hK.blk (b:=b4) (cs:=[.int .i64 x,.int .i64 y])).at0) rfl ⟨rfl,hK.mod⟩
set_option maxHeartbeats 1000000 in
theorem t_less {a b:Int} {w:World}:Calls Tryz.prog 89 #[.int .i64 a,.int .i64 b] w (Ret (.int .i64 (lessP a b)) w):=by
 have hK:Know w w none' [] []:=Know.start (L:=[]) w (by simp)
 have k1:=Lib.hid (fun (W:World)=>t_both (a:=a) (b:=b) (w:=W))
 have b1:=cutP_bd a
 have b2:=cutP_bd b
 obtain ⟨V,hV⟩: ∃ V,lessP a b=V:=⟨_,rfl⟩
 rw [hV]
 unfold lessP at hV
 obtain ⟨x,hx⟩: ∃ x,cutP a=x:=⟨_,rfl⟩
 obtain ⟨y,hy⟩: ∃ y,cutP b=y:=⟨_,rfl⟩
 rw [hx,hy] at k1 hV
 rw [hx] at b1
 rw [hy] at b2
 obtain ⟨b10,b11⟩:=b1
 obtain ⟨b20,b21⟩:=b2
 clear hx hy
 by_cases h0:x=4611686018427387904
 · subst h0
   rw [if_pos rfl] at hV
   have HV:=Lib.hid hV
   clear hV
   go_enter Tryz.func89,Tryz.ntmps89
   go_wp2_with (first
    |((with_reducible refine wl_at (o:=⟨some 5,.alloc _,_,_,_,_⟩) ?_)
      (refine wl_allocK (z:=.agg ([.int .i64 0,.int .i64 0]).toArray) (zs:=[.int .i64 0,.int .i64 0]) hK rfl rfl (by kernel_rfl) rfl ?_;clear hK;intro w5 b5 hK))
    |(go_at_call 119;(refine (hK.quiet (k1.out _)).mono ?_;clear hK;rintro e w' ⟨rfl,hK⟩))
    |((with_reducible refine wl_at (o:=⟨none,.store 193 _ _,_,_,_,_⟩) ?_)
      (refine wl_storeWK (vs:=[.int .i64 4611686018427387904,.int .i64 y]) hK rfl rfl rfl rfl (aggS (by decide)) (fun v hv=>by simp at hv;rcases hv with rfl|rfl<;>rfl) (h:=?_);clear hK;intro w' hK;simp only [z0,z1] at hK))
    |go_big_skip
    |go_big_skip
    |((with_reducible refine wl ?_);refine ldQ ?_)
    |(with_reducible refine en ?_))
   go_ret
   exact ⟨by rw [<-HV.out];rfl,hK.mod⟩
 · rw [if_neg h0] at hV
   have HV:=Lib.hid hV
   have d0:(x == 4611686018427387904)=false:=beq_eq_false_iff_ne.2 h0
   have d1:decide (x=4611686018427387904)=false:=decide_eq_false h0
   clear hV h0
   go_enter Tryz.func89,Tryz.ntmps89
   go_wp2_with (first
    |((with_reducible refine wl_at (o:=⟨some 5,.alloc _,_,_,_,_⟩) ?_)
      (refine wl_allocK (z:=.agg ([.int .i64 0,.int .i64 0]).toArray) (zs:=[.int .i64 0,.int .i64 0]) hK rfl rfl (by kernel_rfl) rfl ?_;clear hK;intro w5 b5 hK))
    |(go_at_call 119;(refine (hK.quiet (k1.out _)).mono ?_;clear hK;rintro e w' ⟨rfl,hK⟩))
    |((with_reducible refine wl_at (o:=⟨none,.store 193 _ _,_,_,_,_⟩) ?_)
      (refine wl_storeWK (vs:=[.int .i64 x,.int .i64 y]) hK rfl rfl rfl rfl (aggS (by decide)) (fun v hv=>by simp at hv;rcases hv with rfl|rfl<;>rfl) (h:=?_);clear hK;intro w' hK;simp only [z0,z1] at hK))
    |((with_reducible refine wl_at (o:=⟨_,.call {callee:=.builtin .min,args:= #[_,_],argTypes:=_},_,_,_,_⟩) ?_);refine wl_min2 rfl rfl rfl rfl ?_)
    |((with_reducible refine wl_at (o:=⟨_,.call {callee:=.builtin .max,args:= #[_,_],argTypes:=_},_,_,_,_⟩) ?_);refine wl_max2 rfl rfl rfl rfl ?_)
    |((with_reducible refine wl_at (o:=⟨_,.call {callee:=.builtin .min,args:= #[_,_,_],argTypes:=_},_,_,_,_⟩) ?_);refine wl_min3 rfl rfl rfl rfl rfl ?_)
    |go_big_skip
    |go_big_skip
    |((with_reducible refine wl ?_);refine ldQ ?_)
    |(with_reducible refine en ?_))
   go_ret
   exact ⟨by rw [<-HV.out];rfl,hK.mod⟩
end Go.Proofs.YtngeeilkpnihmaaGreatDoor
