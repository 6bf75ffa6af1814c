/- WorldDelays. -/
import Derived.Test.YtngeeilkpnihmaaGreatDoorWdBZ
import Derived.Test.YtngeeilkpnihmaaGreatDoorR8eZ
import Derived.Test.YtngeeilkpnihmaaGreatDoorRbCZ
set_option linter.all false
namespace Go.Proofs.YtngeeilkpnihmaaGreatDoor
open Go Go.Sk Go.RowKit
set_option maxRecDepth 100000
def new18 (c:ConfV) (j:Nat) (u:Pose):List Value:=c.cells++([.int .i64 j]++(u.cells++([.int .i64 0,.int .i64 0,.int .i64 0,.bool false]++(Go.Sk.Move.cells mvZ++[.int .i64 0,.int .i64 0,.int .i64 0,.bool false,.bool false]))))
set_option maxHeartbeats 1000000 in
theorem ref18_new {c:ConfV} {u:Pose} {j:Nat} {w:World} (hc:Has w (rConf c)) (hr:c.robots.l[j]?=some u) (hj:j<=64):Calls Tryz.prog 54 #[.agg c.cells.toArray,.int .i64 j] w fun e w'=> ∃ p,e=.returned (.pointer (some ⟨p,0,none⟩))/\Turn (rBlk p (new18 c j u) 116) w w' none':=by
 have hK:=Know.start (L:=[rConf c]) w (by simpa using hc)
 have HU:=Lib.hid hr
 clear hc
 replace hK:=hK.part (r:=rConf c) (r':=rRd elPose c.robots.val c.robots.l) (by simp) (rAll_mem (by simp))
 clear hr
 go_enter Tryz.func54,Tryz.ntmps54
 go_wp2_with (first
  |((with_reducible refine wb 2 ?_)
    (refine wl_boxK hK rfl rfl rfl rfl ?_;clear hK;intro w2 b2 hK))
  |((with_reducible refine tx 1 hK ?_);clear hK;intro w' hK)
  |((with_reducible refine wt 10 ?_);(refine wl_ixK (i:=j) (u:=u) hK rfl rfl rfl rfl poseTy.und poseTy.size (hu:=HU) (h:=?_);intro b10 k10 hat10))
  |((with_reducible refine wt 12 ?_);(refine wl_pure (v:=.agg (new18 c j u).toArray) rfl (fun W=>by kernel_rfl) ?_))
  |((with_reducible refine wb 13 ?_)
    (refine wl_boxK hK rfl rfl rfl rfl ?_;clear hK;intro w13 b13 hK))
  |go_big_skip
  |((with_reducible refine wl ?_);refine ldQ ?_)
  |(with_reducible refine en ?_))
 go_ret
 exact ⟨b13,rfl,(hK.sub (.cons_cons _ (.cons _ .slnil))).turn⟩
theorem ptrTyR:SliceTy Tryz.prog 108 111 elPtr.sz 8 [.pointer none]:=
 SliceTy.mk' (z:=.pointer none) (by kernel_rfl) (by kernel_rfl) rfl rfl
end Go.Proofs.YtngeeilkpnihmaaGreatDoor
