/- The world: Bins, Robot. -/
import Derived.Test.YtngeeilkpnihmaaGreatDoorWd7Z
import Derived.Test.YtngeeilkpnihmaaGreatDoorBnAZ
set_option linter.all false
namespace Go.Proofs.YtngeeilkpnihmaaGreatDoor
open Go Go.Sk Go.RowKit
set_option maxRecDepth 100000
theorem w_bins {c:ConfP} {wp:Nat} {m:WM} {w:World} (h:Has w (rWLD c wp m)):Calls Tryz.prog 17 #[.pointer (some ⟨wp,0,none⟩)] w fun e w'=> ∃ ad n cap,e=.returned (.slice ad n cap)/\Turn (rOw 3 elInt (.slice ad n cap) (m.s.bins c)) w w' none':=by
 obtain ⟨gp,sp,ra,rc,ps,sa,sc,hlen,hK⟩:=Has.wldK h
 clear h hlen
 have kB:=Lib.hid (fun (W:World) (h:Has W (rSTK c sp m.s))=>k_bins h)
 simp only [rWd,wdCells] at hK
 go_enter Tryz.func17,Tryz.ntmps17
 go_wp2_with (first
  |(go_at_call 35;(refine (kB.out _ hK.lent).mono ?_;rintro e w' ⟨ad,n,cap,rfl,hT⟩;replace hK:=hK.push1 hT;clear hT))
  |go_big_skip
  |((with_reducible refine wl ?_);refine ldKQ ?_)
  |(with_reducible refine en ?_))
 go_ret
 exact ⟨ad,n,cap,rfl,hK.turn⟩
theorem same_intsW {w:World} {ad ad':Option Addr} {n n' cap cap':Nat} {l l':List Int} {b:Bool} (hb:decide (l=l')=b) (h1:Rd w elInt (.slice ad n cap) l) (h2:Rd w elInt (.slice ad' n' cap') l') (hl:l.length<=9223372036854775807):
 Calls Tryz.prog 21 #[.slice ad n cap,.slice ad' n' cap'] w (Ret (.bool b) w):=by
 subst hb
 have e1:=h1.n
 have e2:=h2.n
 subst e1 e2
 exact sameInts_calls (a:=⟨ad,l,cap⟩) (b:=⟨ad',l',cap'⟩) h1 h2 hl
end Go.Proofs.YtngeeilkpnihmaaGreatDoor
