/- The reference's robot: what a move lasts, New, the laws' go-aheads. -/
import Derived.Test.YtngeeilkpnihmaaGreatDoorRgBZ
import Derived.Test.YtngeeilkpnihmaaGreatDoorRgAZ
import Derived.Test.YtngeeilkpnihmaaGreatDoorRbCZ
set_option linter.all false
namespace Go.Proofs.YtngeeilkpnihmaaGreatDoor
open Go Go.Sk Go.RowKit
set_option maxRecDepth 100000
set_option maxHeartbeats 1000000 in
theorem ref_kin {c:ConfV} {w:World}:Calls Tryz.prog 100 #[.agg c.cells.toArray] w (Ret (.agg (kinH (kinOf c.p)).toArray) w):=by
 have hK:Know w w none' [] []:=Know.start (L:=[]) w (by simp)
 go_enter Tryz.func100,Tryz.ntmps100
 go_wp2_with (first
  |((with_reducible refine wb 1 ?_)
    (refine wl_boxK hK rfl rfl rfl rfl ?_;clear hK;intro w1 b1 hK))
  |((with_reducible refine wl_at (o:=⟨some 2,.alloc _,_,_,_,_⟩) ?_)
    (refine wl_allocK (z:=.agg ([.int .i64 0,.int .i64 0,.int .i64 0]).toArray) (zs:=[.int .i64 0,.int .i64 0,.int .i64 0]) hK rfl rfl (by kernel_rfl) rfl ?_;clear hK;intro w2 b2 hK))
  |((with_reducible refine wt 9 ?_);(refine wl_pure (v:=.agg (kinH (kinOf c.p)).toArray) rfl (fun W=>by kernel_rfl) ?_))
  |((with_reducible refine wl_at (o:=⟨none,.store 176 _ _,_,_,_,_⟩) ?_)
    (refine wl_storeWK (vs:=kinH (kinOf c.p)) hK rfl rfl rfl rfl (aggS (by decide)) (kinH_one _) (h:=?_);clear hK;intro w' hK;simp only [z0,z1] at hK))
  |go_big_skip
  |go_big_skip
  |((with_reducible refine wl ?_);refine ldQ ?_)
  |(with_reducible refine en ?_))
 exact bodyPost_ret (res_cellS rfl _ rfl (aggT (by decide)) rfl (hK.blk (b:=b2) (cs:=kinH (kinOf c.p))).at0) rfl ⟨rfl,hK.mod⟩
def lastsP (c:ConfP) (m:Go.Sk.Move):Int:=if m.kind=1 then (kinOf c).time m.n else if m.kind=2 then c.turn else if m.kind=3\/m.kind=4 then c.hoist else 0
set_option maxHeartbeats 1000000 in
theorem ref_lasts {c:ConfV} {m:Go.Sk.Move} {w:World} (hk:(kinOf c.p).Ok):Calls Tryz.prog 78 #[.agg c.cells.toArray,.agg m.cells.toArray] w (Ret (.int .i64 (lastsP c.p m)) w):=by
 have hK:Know w w none' [] []:=Know.start (L:=[]) w (by simp)
 have kT:=Lib.hid (fun (W:World)=>k9_time hk (n:=m.n) (w:=W))
 have kC:=Lib.hid (fun (W:World)=>ref_kin (c:=c) (w:=W))
 obtain ⟨T,hT⟩: ∃ T,(kinOf c.p).time m.n=T:=⟨_,rfl⟩
 rw [hT] at kT
 obtain ⟨Y,hY⟩: ∃ Y,kinH (kinOf c.p)=Y:=⟨_,rfl⟩
 rw [hY] at kT kC
 unfold lastsP
 rw [hT]
 clear hT hY
 by_cases k1:m.kind=1
 · have e1:(m.kind == 1)=true:=beq_iff_eq.2 k1
   have e1':decide (m.kind=1)=true:=decide_eq_true k1
   rw [if_pos k1]
   clear k1
   go_enter Tryz.func78,Tryz.ntmps78
   go_wp2_with (first
    |((with_reducible refine wb 2 ?_)
      (refine wl_boxK hK rfl rfl rfl rfl ?_;clear hK;intro w2 b2 hK))
    |((with_reducible refine wb 3 ?_)
      (refine wl_boxK hK rfl rfl rfl rfl ?_;clear hK;intro w3 b3 hK))
    |((with_reducible refine wp_region_stableK (id:=3) hK [3] [rBlk b3 m.cells 38] (by kernel_rfl) (by kernel_rfl) (by simp) (by kernel_rfl) ?_);clear hK;intro w' hK)
    |(with_reducible refine wpC_of ?_)
    |(with_reducible refine atEndC (hK.cls (by simp)) ?_)
    |((with_reducible refine wpC_end' ?_);refine wpC_nil ⟨by kernel_rfl,stays_loadK rfl rfl rfl rfl (scalT (by decide)) rfl (rest:=stays_nil),?_⟩)
    |(go_at_call 100;(refine (hK.quiet (kC.out _)).mono ?_;clear hK;rintro e w' ⟨rfl,hK⟩))
    |(go_at_call 101;(refine (hK.quiet (kT.out _)).mono ?_;clear hK;rintro e w' ⟨rfl,hK⟩))
    |go_big_skip
    |go_big_skip
    |((with_reducible refine wl ?_);refine ldQ ?_)
    |(with_reducible refine en ?_))
   go_ret
   exact ⟨rfl,hK.mod⟩
 · have e1:(m.kind == 1)=false:=beq_eq_false_iff_ne.2 k1
   have e1':decide (m.kind=1)=false:=decide_eq_false k1
   rw [if_neg k1]
   clear k1
   by_cases k2:m.kind=2
   · have e2:(m.kind == 2)=true:=beq_iff_eq.2 k2
     have e2':decide (m.kind=2)=true:=decide_eq_true k2
     rw [if_pos k2]
     clear k2
     go_enter Tryz.func78,Tryz.ntmps78
     go_wp2_with (first
      |((with_reducible refine wb 2 ?_)
        (refine wl_boxK hK rfl rfl rfl rfl ?_;clear hK;intro w2 b2 hK))
      |((with_reducible refine wb 3 ?_)
        (refine wl_boxK hK rfl rfl rfl rfl ?_;clear hK;intro w3 b3 hK))
      |go_big_skip
      |go_big_skip
      |((with_reducible refine wl ?_);refine ldQ ?_)
      |(with_reducible refine en ?_))
     go_ret
     exact ⟨rfl,hK.mod⟩
   · have e2:(m.kind == 2)=false:=beq_eq_false_iff_ne.2 k2
     have e2':decide (m.kind=2)=false:=decide_eq_false k2
     rw [if_neg k2]
     clear k2
     by_cases k3:m.kind=3
     · have e3:(m.kind == 3)=true:=beq_iff_eq.2 k3
       have e3':decide (m.kind=3)=true:=decide_eq_true k3
       rw [if_pos (.inl k3)]
       clear k3
       go_enter Tryz.func78,Tryz.ntmps78
       go_wp2_with (first
        |((with_reducible refine wb 2 ?_)
          (refine wl_boxK hK rfl rfl rfl rfl ?_;clear hK;intro w2 b2 hK))
        |((with_reducible refine wb 3 ?_)
          (refine wl_boxK hK rfl rfl rfl rfl ?_;clear hK;intro w3 b3 hK))
        |go_big_skip
        |go_big_skip
        |((with_reducible refine wl ?_);refine ldQ ?_)
        |(with_reducible refine en ?_))
       go_ret
       exact ⟨rfl,hK.mod⟩
     · have e3:(m.kind == 3)=false:=beq_eq_false_iff_ne.2 k3
       have e3':decide (m.kind=3)=false:=decide_eq_false k3
       by_cases k4:m.kind=4
       · have e4:(m.kind == 4)=true:=beq_iff_eq.2 k4
         have e4':decide (m.kind=4)=true:=decide_eq_true k4
         rw [if_pos (.inr k4)]
         clear k3 k4
         go_enter Tryz.func78,Tryz.ntmps78
         go_wp2_with (first
          |((with_reducible refine wb 2 ?_)
            (refine wl_boxK hK rfl rfl rfl rfl ?_;clear hK;intro w2 b2 hK))
          |((with_reducible refine wb 3 ?_)
            (refine wl_boxK hK rfl rfl rfl rfl ?_;clear hK;intro w3 b3 hK))
          |go_big_skip
          |go_big_skip
          |((with_reducible refine wl ?_);refine ldQ ?_)
          |(with_reducible refine en ?_))
         go_ret
         exact ⟨rfl,hK.mod⟩
       · have e4:(m.kind == 4)=false:=beq_eq_false_iff_ne.2 k4
         have e4':decide (m.kind=4)=false:=decide_eq_false k4
         rw [if_neg (show ¬ (m.kind=3\/m.kind=4) by omega)]
         clear k3 k4
         go_enter Tryz.func78,Tryz.ntmps78
         go_wp2_with (first
          |((with_reducible refine wb 2 ?_)
            (refine wl_boxK hK rfl rfl rfl rfl ?_;clear hK;intro w2 b2 hK))
          |((with_reducible refine wb 3 ?_)
            (refine wl_boxK hK rfl rfl rfl rfl ?_;clear hK;intro w3 b3 hK))
          |go_big_skip
          |go_big_skip
          |((with_reducible refine wl ?_);refine ldQ ?_)
          |(with_reducible refine en ?_))
         go_ret
         exact ⟨rfl,hK.mod⟩
end Go.Proofs.YtngeeilkpnihmaaGreatDoor
