/- WorldDelays. -/
import Derived.Test.YtngeeilkpnihmaaGreatDoorWdbZ
set_option linter.all false
namespace Go.Proofs.YtngeeilkpnihmaaGreatDoor
open Go Go.Sk Go.RowKit
set_option maxRecDepth 100000
theorem w_newD {c d:ConfV} {w:World} (hm:MayP c.p) (hd:d.p=c.p) (hu:Upto c) (hwf: ∀ p∈c.robots.l,PoseWf p) (h:Has w (rDup d)) (hst:Has w stepsR):Calls Tryz.prog 16 #[.agg d.cells.toArray] w fun e w'=>
 ∃ wp,e=.returned (.tuple #[.pointer (some ⟨wp,0,none⟩),.int .i64 0])/\Turn (rWLD c.p wp (WM.start c.p)) w w' none':=by
 have h3:d.robots.l=c.robots.l:=congrArg ConfP.robots hd
 have:=w_new (c:=d) (w:=w) (by rw [hd];exact hm) (dup_has h) hst (upto_p hd hu).sized (by rw [h3];exact hwf)
 rw [hd] at this
 exact this
end Go.Proofs.YtngeeilkpnihmaaGreatDoor
