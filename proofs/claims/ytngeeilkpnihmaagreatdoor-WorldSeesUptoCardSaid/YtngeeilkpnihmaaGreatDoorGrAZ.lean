/- Texts of mine that belong together: Gr1, Gr2, Gr3, Gr4, Gr5, Gr6, Gr7. -/
import Derived.Test.YtngeeilkpnihmaaGreatDoorRefAZ
import Derived.Test.YtngeeilkpnihmaaGreatDoorSkBZ
set_option linter.all false
namespace Go.Proofs.YtngeeilkpnihmaaGreatDoor
open Go Go.Sk Go.RowKit
set_option maxRecDepth 100000
set_option maxHeartbeats 400000 in
theorem gr_within (v a b:Int) (w:World):Calls Tryz.prog 83 #[.int .i64 v,.int .i64 a,.int .i64 b] w (Ret (.bool (Go.Sk.within v a b)) w):=by
 have hcs:v<a\/(a<=v/\b<v)\/(a<=v/\v<=b):=by omega
 rcases hcs with h1|⟨h1,h2⟩|⟨h1,h2⟩
 all_goals
  go_enter Tryz.func83,Tryz.ntmps83
  go_wp2
  go_ret
  refine ⟨?_,Mod.refl _ _⟩
  first
   |(rw [show Go.Sk.within v a b=true from Go.Sk.within_iff.2 (by omega)];first|rfl|exact congrArg (fun b=>Ending.returned (Value.bool b)) (decide_eq_true (by assumption)))
   |(rw [show Go.Sk.within v a b=false from Bool.eq_false_iff.2 fun h=>absurd (Go.Sk.within_iff.1 h) (by omega)];first|rfl|exact congrArg (fun b=>Ending.returned (Value.bool b)) (decide_eq_false (Int.not_le.2 (by assumption))))
structure GridV where
 p:Nat
 w:Int
 h:Int
 ad:Option Addr
 n:Nat
 cap:Nat
 ks:List Int
abbrev GridV.kv (g:GridV):Value:=.slice g.ad g.n g.cap
def GridV.cells (g:GridV):List Value:=[.int .i64 g.w,.int .i64 g.h,g.kv]
abbrev GridV.ptr (g:GridV):Value:=.pointer (some ⟨g.p,0,none⟩)
structure GridOk (g:GridV):Prop where
 w:1<=g.w/\g.w<=16
 h:1<=g.h/\g.h<=16
 len:(g.ks.length:Int)=g.w*g.h
 small: ∀ k∈g.ks, -2<=k/\k<=8
structure GridAt (W:World) (g:GridV):Prop where
 blk:Blk W g.p g.cells 148
 rd:Rd W elInt g.kv g.ks
def inG (g:GridV) (x:Cell):Bool:=Go.Sk.within x.x 0 (g.w - 1) && Go.Sk.within x.y 0 (g.h - 1)
theorem inG_iff {g:GridV} {x:Cell}:inG g x=true ↔ (0<=x.x/\x.x<g.w)/\0<=x.y/\x.y<g.h:=by
 unfold inG
 rw [Bool.and_eq_true,Go.Sk.within_iff,Go.Sk.within_iff]
 omega
def numG (g:GridV) (x:Cell):Int:=if inG g x then x.y*g.w+x.x else -1
theorem numG_bd {g:GridV} (hg:GridOk g) (x:Cell): -1<=numG g x/\numG g x<g.ks.length/\(0<=numG g x ↔ inG g x=true):=by
 unfold numG
 rw [hg.len]
 by_cases hi:inG g x=true
 · rw [if_pos hi]
   obtain ⟨⟨h1,h2⟩,h3,h4⟩:=inG_iff.1 hi
   have a:0<=x.y*g.w:=Int.mul_nonneg h3 (by omega)
   have b:(x.y+1)*g.w<=g.h*g.w:=Int.mul_le_mul_of_nonneg_right (by omega) (by omega)
   rw [Int.add_mul,Int.one_mul] at b
   rw [Int.mul_comm g.w g.h]
   exact ⟨by omega,by omega,fun _=>hi,fun _=>by omega⟩
 · rw [if_neg hi]
   have:=Int.mul_le_mul hg.w.1 hg.h.1 (by omega) (by have:=hg.w.1;omega)
   exact ⟨by omega,by omega,fun h=>by omega,fun h=>absurd h hi⟩
def kd (g:GridV) (x:Cell):Int:=g.ks.getD (numG g x).toNat 0
theorem kd_get {g:GridV} (hg:GridOk g) {x:Cell} (hi:inG g x=true):g.ks[(numG g x).toNat]?=some (kd g x):=by
 obtain ⟨h1,h2,h3⟩:=numG_bd hg x
 have:=h3.2 hi
 unfold kd
 rw [List.getD_eq_getElem?_getD,List.getElem?_eq_getElem (by omega)]
 simp
set_option maxHeartbeats 1000000 in
theorem gr_number {g:GridV} {x:Cell} {w:World} (ha:GridAt w g) (hg:GridOk g):Calls Tryz.prog 62 #[g.ptr,.agg x.cells.toArray] w (Ret (.int .i64 (numG g x)) w):=by
 have hK:=Know.start (L:=[rBlk g.p g.cells 148]) w (by intro r hr;simp only [List.mem_singleton] at hr;subst hr;exact ⟨_,rBlk_p.2 ⟨ha.blk,rfl⟩⟩)
 have hw1:=hg.w.1
 have hw2:=hg.w.2
 have hh1:=hg.h.1
 have hh2:=hg.h.2
 have k1:=Lib.hid (gr_within x.x 0 (g.w - 1))
 have k2:=Lib.hid (gr_within x.y 0 (g.h - 1))
 have hm:Hid (numG g x=if (Go.Sk.within x.x 0 (g.w - 1) && Go.Sk.within x.y 0 (g.h - 1))=true then x.y*g.w+x.x else -1):=rfl
 obtain ⟨q1,hq1⟩: ∃ q,q=Go.Sk.within x.x 0 (g.w - 1):=⟨_,rfl⟩
 obtain ⟨q2,hq2⟩: ∃ q,q=Go.Sk.within x.y 0 (g.h - 1):=⟨_,rfl⟩
 rw [<-hq1] at k1 hm
 rw [<-hq2] at k2 hm
 have hcs:q1=false\/(q1=true/\q2=false)\/(q1=true/\q2=true/\(0<=x.x/\x.x<=15)/\(0<=x.y/\x.y<=15)/\0<=x.y*g.w/\x.y*g.w<=240):=by
  cases q1
  · exact .inl rfl
  · cases q2
    · exact .inr (.inl ⟨rfl,rfl⟩)
    · have e1:=Go.Sk.within_iff.1 hq1.symm
      have e2:=Go.Sk.within_iff.1 hq2.symm
      have a:0<=x.y*g.w:=Int.mul_nonneg e2.1 (by omega)
      have b:x.y*g.w<=15*16:=Int.mul_le_mul (by omega) hw2 (by omega) (by omega)
      exact .inr (.inr ⟨rfl,rfl,by omega,by omega,a,by omega⟩)
 clear hq1 hq2
 rcases hcs with rfl|⟨rfl,rfl⟩|⟨rfl,rfl,⟨h1,h2⟩,⟨h3,h4⟩,h5,h6⟩
 all_goals
  go_enter Tryz.func62,Tryz.ntmps62
  go_wp2_with (first
   |((with_reducible refine wb 3 ?_)
     (refine wl_boxK hK rfl rfl rfl rfl ?_;clear hK;intro w3 b3 hK))
   |(go_at_call 83;first
      |(with_reducible refine (hK.quiet (k1.out _)).mono ?_);clear hK;rintro e w' ⟨rfl,hK⟩
      |(with_reducible refine (hK.quiet (k2.out _)).mono ?_);clear hK;rintro e w' ⟨rfl,hK⟩)
   |((with_reducible refine tx 1 hK ?_);clear hK;intro w' hK)
   |((with_reducible refine tx 3 hK ?_);clear hK;intro w' hK)
   |go_big_skip
   |((with_reducible refine wl ?_);refine ld ?_)
   |(with_reducible refine en ?_))
  go_ret
  refine ⟨?_,hK.mod⟩
  rw [hm.out]
  rfl
end Go.Proofs.YtngeeilkpnihmaaGreatDoor
namespace Go.Proofs.YtngeeilkpnihmaaGreatDoor
open Go Go.Sk Go.RowKit
set_option maxRecDepth 100000
def openG (g:GridV) (x:Cell):Bool:=inG g x && decide (kd g x≠ -1)
def stackedG (g:GridV) (x:Cell):Bool:=inG g x && decide (kd g x=0)
def portG (g:GridV) (x:Cell):Int:=if inG g x=true/\1<=kd g x then kd g x - 1 else -1
theorem GridAt.know {g:GridV} {w:World} (h:GridAt w g):Know w w none' [] [rBlk g.p g.cells 148,rRd elInt g.kv g.ks]:=Know.start w (by
 intro r hr
 simp only [List.mem_cons,List.not_mem_nil,or_false] at hr
 rcases hr with rfl|rfl
 · exact ⟨_,rBlk_p.2 ⟨h.blk,rfl⟩⟩
 · exact h.rd.has)
theorem GridAt.of {g:GridV} {w0 w:World} {F:Nat->Prop} {M L:List Res} (h:Know w0 w F M L) (hm:MemB g.p g.cells 148 M\/MemB g.p g.cells 148 L:=by first|(left;repeat (first|exact MemB.head|apply MemB.tail));done|(right;repeat (first|exact MemB.head|apply MemB.tail));done)
 (hs:MemS elInt g.kv g.ks M\/MemS elInt g.kv g.ks L:=by first|(left;repeat (first|exact MemS.rd|exact MemS.ow|apply MemS.tail));done|(right;repeat (first|exact MemS.rd|exact MemS.ow|apply MemS.tail));done):GridAt w g:=⟨h.blk hm,h.rd hs⟩
theorem num_ways {g:GridV} (hg:GridOk g) (x:Cell):(numG g x= -1/\inG g x=false)\/ ∃ m:Nat,numG g x=(m:Int)/\m<256/\inG g x=true/\g.ks[m]?=some (kd g x)/\ -2<=kd g x/\kd g x<=8:=by
 obtain ⟨h1,h2,h3⟩:=numG_bd hg x
 by_cases hi:inG g x=true
 · right
   have h4:=h3.2 hi
   have hk:=kd_get hg hi
   have hs:=hg.small _ (List.mem_of_getElem? hk)
   have hl:=hg.len
   have:=Int.mul_le_mul hg.w.2 hg.h.2 (by have:=hg.h.1;omega) (by omega)
   exact ⟨(numG g x).toNat,by omega,by omega,hi,hk,hs.1,hs.2⟩
 · left
   refine ⟨?_,by simpa using hi⟩
   unfold numG
   rw [if_neg hi]
set_option maxHeartbeats 1000000 in
theorem gr_open {g:GridV} {x:Cell} {w:World} (ha:GridAt w g) (hg:GridOk g):Calls Tryz.prog 123 #[g.ptr,.agg x.cells.toArray] w (Ret (.bool (openG g x)) w):=by
 have hK:=ha.know
 have k1:=Lib.hid (fun (W:World) (h:GridAt W g)=>gr_number (x:=x) h hg)
 rcases num_ways hg x with ⟨h1,h2⟩|⟨m,h1,hm,h2,h3,h4,h5⟩
 · rw [h1] at k1
   have e:openG g x=false:=by unfold openG;rw [h2];rfl
   rw [e]
   clear h1 h2 e
   go_enter Tryz.func123,Tryz.ntmps123
   go_wp2_with (first
    |((with_reducible refine wb 3 ?_)
      (refine wl_boxK hK rfl rfl rfl rfl ?_;clear hK;intro w3 b3 hK))
    |(go_at_call 62;(refine (hK.quiet (k1.out _ (GridAt.of hK))).mono ?_;clear hK;rintro e w' ⟨rfl,hK⟩))
    |go_big_skip
    |((with_reducible refine wl ?_);refine ld ?_)
    |(with_reducible refine en ?_))
   go_ret
   exact ⟨rfl,hK.mod⟩
 · rw [h1] at k1
   have e:openG g x=decide (kd g x≠ -1):=by unfold openG;rw [h2];rfl
   rw [e]
   clear h1 h2 e
   generalize kd g x=u at*
   have HU:=Lib.hid h3
   clear h3
   by_cases hu:u= -1
   all_goals
    first|(have e1:(u !=(-1:Int))=false:=by simp [hu])|(have e1:(u !=(-1:Int))=true:=by simp [hu])
    have e2:=Lib.hid hu
    clear hu
    go_enter Tryz.func123,Tryz.ntmps123
    go_wp2_with (first
     |((with_reducible refine wb 3 ?_)
       (refine wl_boxK hK rfl rfl rfl rfl ?_;clear hK;intro w3 b3 hK))
     |(go_at_call 62;(refine (hK.quiet (k1.out _ (GridAt.of hK))).mono ?_;clear hK;rintro e w' ⟨rfl,hK⟩))
     |((with_reducible refine wt 17 ?_)
       (refine wl_ixK hK rfl rfl rfl rfl intTy.und intTy.size (h:=?_);intro b17 k17 hat17))
     |go_big_skip
     |((with_reducible refine wl ?_);refine ld ?_)
     |(with_reducible refine en ?_))
    go_ret
    refine ⟨?_,hK.mod⟩
    first
     |rfl
     |(have e3:=e2.out;simp [e3];done)
set_option maxHeartbeats 1000000 in
theorem gr_stacked {g:GridV} {x:Cell} {w:World} (ha:GridAt w g) (hg:GridOk g):Calls Tryz.prog 94 #[g.ptr,.agg x.cells.toArray] w (Ret (.bool (stackedG g x)) w):=by
 have hK:=ha.know
 have k1:=Lib.hid (fun (W:World) (h:GridAt W g)=>gr_number (x:=x) h hg)
 rcases num_ways hg x with ⟨h1,h2⟩|⟨m,h1,hm,h2,h3,h4,h5⟩
 · rw [h1] at k1
   have e:stackedG g x=false:=by unfold stackedG;rw [h2];rfl
   rw [e]
   clear h1 h2 e
   go_enter Tryz.func94,Tryz.ntmps94
   go_wp2_with (first
    |((with_reducible refine wb 3 ?_)
      (refine wl_boxK hK rfl rfl rfl rfl ?_;clear hK;intro w3 b3 hK))
    |(go_at_call 62;(refine (hK.quiet (k1.out _ (GridAt.of hK))).mono ?_;clear hK;rintro e w' ⟨rfl,hK⟩))
    |go_big_skip
    |((with_reducible refine wl ?_);refine ld ?_)
    |(with_reducible refine en ?_))
   go_ret
   exact ⟨rfl,hK.mod⟩
 · rw [h1] at k1
   have e:stackedG g x=decide (kd g x=0):=by unfold stackedG;rw [h2];rfl
   rw [e]
   clear h1 h2 e
   generalize kd g x=u at*
   have HU:=Lib.hid h3
   clear h3
   by_cases hu:u=0
   all_goals
    first|(have e1:(u == (0:Int))=true:=by simp [hu])|(have e1:(u == (0:Int))=false:=by simp [hu])
    have e2:=Lib.hid hu
    clear hu
    go_enter Tryz.func94,Tryz.ntmps94
    go_wp2_with (first
     |((with_reducible refine wb 3 ?_)
       (refine wl_boxK hK rfl rfl rfl rfl ?_;clear hK;intro w3 b3 hK))
     |(go_at_call 62;(refine (hK.quiet (k1.out _ (GridAt.of hK))).mono ?_;clear hK;rintro e w' ⟨rfl,hK⟩))
     |((with_reducible refine wt 17 ?_)
       (refine wl_ixK hK rfl rfl rfl rfl intTy.und intTy.size (h:=?_);intro b17 k17 hat17))
     |go_big_skip
     |((with_reducible refine wl ?_);refine ld ?_)
     |(with_reducible refine en ?_))
    go_ret
    refine ⟨?_,hK.mod⟩
    first
     |(rw [decide_eq_true e2.out];rfl)
     |(rw [decide_eq_false e2.out];rfl)
set_option maxHeartbeats 1000000 in
theorem gr_port {g:GridV} {x:Cell} {w:World} (ha:GridAt w g) (hg:GridOk g):Calls Tryz.prog 71 #[g.ptr,.agg x.cells.toArray] w (Ret (.int .i64 (portG g x)) w):=by
 have hK:=ha.know
 have k1:=Lib.hid (fun (W:World) (h:GridAt W g)=>gr_number (x:=x) h hg)
 rcases num_ways hg x with ⟨h1,h2⟩|⟨m,h1,hm,h2,h3,h4,h5⟩
 · rw [h1] at k1
   have e:portG g x= -1:=by unfold portG;rw [if_neg (by rw [h2];simp)]
   rw [e]
   clear h1 h2 e
   go_enter Tryz.func71,Tryz.ntmps71
   go_wp2_with (first
    |((with_reducible refine wb 3 ?_)
      (refine wl_boxK hK rfl rfl rfl rfl ?_;clear hK;intro w3 b3 hK))
    |(go_at_call 62;(refine (hK.quiet (k1.out _ (GridAt.of hK))).mono ?_;clear hK;rintro e w' ⟨rfl,hK⟩))
    |go_big_skip
    |((with_reducible refine wl ?_);refine ld ?_)
    |(with_reducible refine en ?_))
   go_ret
   exact ⟨rfl,hK.mod⟩
 · rw [h1] at k1
   have e:portG g x=if 1<=kd g x then kd g x - 1 else -1:=by unfold portG;rw [h2];simp
   rw [e]
   clear h1 h2 e
   generalize kd g x=u at*
   have HU:=Lib.hid h3
   clear h3
   by_cases hu:1<=u
   all_goals
    first|(have e1:decide (u<(1:Int))=false:=decide_eq_false (by omega))|(have e1:decide (u<(1:Int))=true:=decide_eq_true (by omega))
    go_enter Tryz.func71,Tryz.ntmps71
    go_wp2_with (first
     |((with_reducible refine wb 3 ?_)
       (refine wl_boxK hK rfl rfl rfl rfl ?_;clear hK;intro w3 b3 hK))
     |(go_at_call 62;(refine (hK.quiet (k1.out _ (GridAt.of hK))).mono ?_;clear hK;rintro e w' ⟨rfl,hK⟩))
     |((with_reducible refine wt 17 ?_)
       (refine wl_ixK hK rfl rfl rfl rfl intTy.und intTy.size (h:=?_);intro b17 k17 hat17))
     |((with_reducible refine wt 26 ?_)
       (refine wl_ixK hK rfl rfl rfl rfl intTy.und intTy.size (h:=?_);intro b26 k26 hat26))
     |go_big_skip
     |((with_reducible refine wl ?_);refine ld ?_)
     |(with_reducible refine en ?_))
    go_ret
    refine ⟨?_,hK.mod⟩
    first
     |rfl
     |(rw [if_pos (show 1<=u by omega)];rfl)
     |(rw [if_neg (show ¬ 1<=u by omega)];rfl)
set_option maxHeartbeats 1000000 in
theorem listCell_calls {s:Sv Cell} {w:World} (h:Rd w elCell s.val s.l) (hl:s.l.length<=1048576):Calls Tryz.prog 105 #[s.val] w fun e w'=> ∃ ad cap,e=.returned (.slice ad s.l.length cap)/\Turn (rOw 34 elCell (.slice ad s.l.length cap) s.l) w w' none':=by
 have hK:=Know.start (L:=[rRd elCell s.val s.l]) w (by simpa using h.has)
 by_cases h0:s.l.length=0
 · obtain ⟨ad,l,cap⟩:=s
   obtain rfl:l=[]:=List.eq_nil_of_length_eq_zero h0
   clear h0
   go_enter Tryz.func105,Tryz.ntmps105
   go_wp2
   go_ret
   exact ⟨none,0,rfl,(hK.nil _ _).turn⟩
 · have e0:(((s.l.length:Nat):Int) == 0)=false:=beq_eq_false_iff_ne.2 (by omega)
   have hp:0<s.l.length:=by omega
   clear h0
   go_enter Tryz.func105,Tryz.ntmps105
   go_wp2_with (first
    |((with_reducible refine wt 9 ?_)
      (refine wl_makeK ⟨0,0⟩ hK cellTy rfl rfl rfl rfl rfl (by omega) (by unfold maxLen;omega) ?_;clear hK;intro ad w9 hK))
    |((with_reducible refine wt 12 ?_)
      (refine wl_copyK (xs:=List.replicate s.l.length ⟨0,0⟩) hK cellTy rfl rfl rfl rfl hK.rd (by simp) (by simpa using hp) (h:=?_);clear hK;intro w12 hK;simp only [List.set_cons_zero] at hK))
    |go_big_skip
    |((with_reducible refine wl ?_);refine ld ?_)
    |(with_reducible refine en ?_))
   go_ret
   exact ⟨ad,s.l.length,rfl,hK.turn⟩
set_option maxHeartbeats 1000000 in
theorem listInt_calls {s:Sv Int} {w:World} (h:Rd w elInt s.val s.l) (hl:s.l.length<=1048576):Calls Tryz.prog 61 #[s.val] w fun e w'=> ∃ ad cap,e=.returned (.slice ad s.l.length cap)/\Turn (rOw 3 elInt (.slice ad s.l.length cap) s.l) w w' none':=by
 have hK:=Know.start (L:=[rRd elInt s.val s.l]) w (by simpa using h.has)
 by_cases h0:s.l.length=0
 · obtain ⟨ad,l,cap⟩:=s
   obtain rfl:l=[]:=List.eq_nil_of_length_eq_zero h0
   clear h0
   go_enter Tryz.func61,Tryz.ntmps61
   go_wp2
   go_ret
   exact ⟨none,0,rfl,(hK.nil _ _).turn⟩
 · have e0:(((s.l.length:Nat):Int) == 0)=false:=beq_eq_false_iff_ne.2 (by omega)
   have hp:0<s.l.length:=by omega
   clear h0
   go_enter Tryz.func61,Tryz.ntmps61
   go_wp2_with (first
    |((with_reducible refine wt 9 ?_)
      (refine wl_makeK 0 hK intTy rfl rfl rfl rfl rfl (by omega) (by unfold maxLen;omega) ?_;clear hK;intro ad w9 hK))
    |((with_reducible refine wt 12 ?_)
      (refine wl_copyK (xs:=List.replicate s.l.length 0) hK intTy rfl rfl rfl rfl hK.rd (by simp) (by simpa using hp) (h:=?_);clear hK;intro w12 hK;simp only [List.set_cons_zero] at hK))
    |go_big_skip
    |((with_reducible refine wl ?_);refine ld ?_)
    |(with_reducible refine en ?_))
   go_ret
   exact ⟨ad,s.l.length,rfl,hK.turn⟩
end Go.Proofs.YtngeeilkpnihmaaGreatDoor
namespace Go.Proofs.YtngeeilkpnihmaaGreatDoor
open Go Go.Sk Go.RowKit
set_option maxRecDepth 100000
def stepsR:Res:=rAt 0 0 [.int .i64 0,.int .i64 (-1),.int .i64 1,.int .i64 0,.int .i64 0,.int .i64 1,.int .i64 (-1),.int .i64 0]
theorem steps_east {w:World} (h:Has w stepsR):At w 0 2 (Cell.cells ⟨1,0⟩):=(show At w 0 0 _ from Has.at h).part 2 fun j u hu=>by
 rcases j with _|_|j<;>first|exact hu|(simp [Cell.cells] at hu)
theorem steps_south {w:World} (h:Has w stepsR):At w 0 4 (Cell.cells ⟨0,1⟩):=(show At w 0 0 _ from Has.at h).part 4 fun j u hu=>by
 rcases j with _|_|j<;>first|exact hu|(simp [Cell.cells] at hu)
def cellZ:List Value:=[.int .i64 0,.int .i64 0]
structure PoseWf (p:Pose):Prop where
 x: -9223372036854775808<=p.at_.x/\p.at_.x<=9223372036854775807
 y: -9223372036854775808<=p.at_.y/\p.at_.y<=9223372036854775807
set_option maxHeartbeats 1000000 in
theorem gr_cells {g:Value} {p:Pose} {w:World} (hs:Has w stepsR) (hp:PoseWf p):Calls Tryz.prog 107 #[g,.agg p.cells.toArray] w fun e w'=> ∃ ad,e=.returned (.slice ad 2 2)/\Turn (rOw 34 elCell (.slice ad 2 2) p.both) w w' none':=by
 have hK:=Know.start (L:=[stepsR]) w (by simpa using hs)
 obtain ⟨⟨x,y⟩,d⟩:=p
 obtain ⟨⟨h1,h2⟩,h3,h4⟩:=hp
 simp only at h1 h2 h3 h4
 cases d
 · go_enter Tryz.func107,Tryz.ntmps107
   go_wp2_with (first
    |((with_reducible refine wb 3 ?_)
      (refine wl_boxK hK rfl rfl rfl rfl ?_;clear hK;intro w3 b3 hK))
    |((with_reducible refine wt 7 ?_);(refine wl_loadS rfl rfl rfl (aggT (by decide)) rfl (steps_east (hK.has (by simp))) ?_))
    |((with_reducible refine wt 11 ?_);(refine wl_loadS rfl rfl rfl (aggT (by decide)) rfl (steps_south (hK.has (by simp))) ?_))
    |((with_reducible refine wl_at (o:=⟨some 5,.alloc _,_,_,_,_⟩) ?_)
      (refine wl_allocK (z:=.agg (cellZ).toArray) (zs:=cellZ) hK rfl rfl (by kernel_rfl) rfl ?_;clear hK;intro w5 b5 hK))
    |((with_reducible refine wl_at (o:=⟨none,.store 34 _ (.tmp 7),_,_,_,_⟩) ?_)
      (refine wl_storeWK (vs:=Cell.cells ⟨1,0⟩) hK rfl rfl rfl rfl (aggS (by decide)) (elCell.one _) (h:=?_);clear hK;intro w' hK;simp only [z0,z1] at hK))
    |((with_reducible refine wl_at (o:=⟨none,.store 34 _ (.tmp 11),_,_,_,_⟩) ?_)
      (refine wl_storeWK (vs:=Cell.cells ⟨0,1⟩) hK rfl rfl rfl rfl (aggS (by decide)) (elCell.one _) (h:=?_);clear hK;intro w' hK;simp only [z0,z1] at hK))
    |((with_reducible refine wt 13 ?_)
      (refine wl_loadS rfl rfl rfl (aggT (by decide)) rfl (hK.blk.at (ds:=Cell.cells ⟨x,y⟩) (o:=0) (fun j u h=>by rw [Nat.zero_add];rcases j with _|_|j<;>first|exact h|(simp [Cell.cells] at h))) ?_))
    |((with_reducible refine wt 27 ?_)
      (refine wl_buildK 34 elCell [⟨x,y⟩,⟨wrap64 (x+1),y⟩] hK rfl rfl (fun W=>by kernel_rfl) rfl (by decide) ?_;clear hK;intro ad w5 hK))
    |go_big_skip
    |((with_reducible refine wl ?_);refine ld ?_)
    |(with_reducible refine en ?_))
   go_ret
   exact ⟨ad,rfl,hK.turn⟩
 · go_enter Tryz.func107,Tryz.ntmps107
   go_wp2_with (first
    |((with_reducible refine wb 3 ?_)
      (refine wl_boxK hK rfl rfl rfl rfl ?_;clear hK;intro w3 b3 hK))
    |((with_reducible refine wt 7 ?_);(refine wl_loadS rfl rfl rfl (aggT (by decide)) rfl (steps_east (hK.has (by simp))) ?_))
    |((with_reducible refine wt 11 ?_);(refine wl_loadS rfl rfl rfl (aggT (by decide)) rfl (steps_south (hK.has (by simp))) ?_))
    |((with_reducible refine wl_at (o:=⟨some 5,.alloc _,_,_,_,_⟩) ?_)
      (refine wl_allocK (z:=.agg (cellZ).toArray) (zs:=cellZ) hK rfl rfl (by kernel_rfl) rfl ?_;clear hK;intro w5 b5 hK))
    |((with_reducible refine wl_at (o:=⟨none,.store 34 _ (.tmp 7),_,_,_,_⟩) ?_)
      (refine wl_storeWK (vs:=Cell.cells ⟨1,0⟩) hK rfl rfl rfl rfl (aggS (by decide)) (elCell.one _) (h:=?_);clear hK;intro w' hK;simp only [z0,z1] at hK))
    |((with_reducible refine wl_at (o:=⟨none,.store 34 _ (.tmp 11),_,_,_,_⟩) ?_)
      (refine wl_storeWK (vs:=Cell.cells ⟨0,1⟩) hK rfl rfl rfl rfl (aggS (by decide)) (elCell.one _) (h:=?_);clear hK;intro w' hK;simp only [z0,z1] at hK))
    |((with_reducible refine wt 13 ?_)
      (refine wl_loadS rfl rfl rfl (aggT (by decide)) rfl (hK.blk.at (ds:=Cell.cells ⟨x,y⟩) (o:=0) (fun j u h=>by rw [Nat.zero_add];rcases j with _|_|j<;>first|exact h|(simp [Cell.cells] at h))) ?_))
    |((with_reducible refine wt 27 ?_)
      (refine wl_buildK 34 elCell [⟨x,y⟩,⟨x,wrap64 (y+1)⟩] hK rfl rfl (fun W=>by kernel_rfl) rfl (by decide) ?_;clear hK;intro ad w5 hK))
    |go_big_skip
    |((with_reducible refine wl ?_);refine ld ?_)
    |(with_reducible refine en ?_))
   go_ret
   exact ⟨ad,rfl,hK.turn⟩
def fitsG (g:GridV) (p:Pose):Bool:=openG g p.at_ && openG g p.second
set_option maxHeartbeats 1000000 in
theorem gr_fits {g:GridV} {p:Pose} {w:World} (ha:GridAt w g) (hg:GridOk g) (hs:Has w stepsR) (hp:PoseWf p):Calls Tryz.prog 106 #[g.ptr,.agg p.cells.toArray] w (Ret (.bool (fitsG g p)) w):=by
 have hK:Know w w none' [] [rBlk g.p g.cells 148,rRd elInt g.kv g.ks,stepsR]:=Know.start w (by
  intro r hr
  simp only [List.mem_cons,List.not_mem_nil,or_false] at hr
  rcases hr with rfl|rfl|rfl
  · exact ⟨_,rBlk_p.2 ⟨ha.blk,rfl⟩⟩
  · exact ha.rd.has
  · exact hs)
 have h1:=Lib.hid (fun (W:World) (h:GridAt W g)=>gr_open (x:=p.at_) h hg)
 have h2:=Lib.hid (fun (W:World) (h:GridAt W g)=>gr_open (x:=p.second) h hg)
 have HU0:=Lib.hid (show p.both[0]?=some p.at_ from rfl)
 have HU1:=Lib.hid (show p.both[1]?=some p.second from rfl)
 unfold fitsG
 generalize openG g p.at_=b1 at h1 ⊢
 generalize openG g p.second=b2 at h2 ⊢
 cases b1<;>cases b2
 all_goals
  go_enter Tryz.func106,Tryz.ntmps106
  go_wp2_with (first
   |((with_reducible refine wb 3 ?_)
     (refine wl_boxK hK rfl rfl rfl rfl ?_;clear hK;intro w3 b3 hK))
   |(go_at_call 107;(refine (gr_cells (p:=p) (hK.has (by simp)) hp).mono ?_;rintro e w' ⟨ad,rfl,hT⟩;replace hK:=hK.push1 hT;clear hT))
   |((with_reducible refine wt 11 ?_);(refine wl_ixK (i:=0) (u:=p.at_) hK rfl rfl rfl rfl cellTy.und cellTy.size (hu:=HU0) (h:=?_);intro b11 k11 hat11))
   |go_big_skip
   |((with_reducible refine wt 17 ?_);(refine wl_ixK (i:=1) (u:=p.second) hK rfl rfl rfl rfl cellTy.und cellTy.size (hu:=HU1) (h:=?_);intro b17 k17 hat17))
   |(go_at_call 123;first
      |(with_reducible refine (hK.quiet (h1.out _ (GridAt.of hK))).mono ?_);clear hK;rintro e w' ⟨rfl,hK⟩
      |(with_reducible refine (hK.quiet (h2.out _ (GridAt.of hK))).mono ?_);clear hK;rintro e w' ⟨rfl,hK⟩)
   |go_big_skip
   |((with_reducible refine wl ?_);refine ld ?_)
   |(with_reducible refine en ?_))
  go_ret
  exact ⟨rfl,hK.mod⟩
end Go.Proofs.YtngeeilkpnihmaaGreatDoor
namespace Go.Proofs.YtngeeilkpnihmaaGreatDoor
open Go Go.Sk Go.RowKit
set_option maxRecDepth 100000
theorem boolTy:SliceTy Tryz.prog 178 4 elBool.sz 1 [.bool false]:=
 SliceTy.mk' (z:=.bool false) (by kernel_rfl) (by kernel_rfl) rfl rfl
structure GridOf (c:ConfP) (g:GridV) (f:Cell->Int):Prop where
 w:g.w=c.w
 h:g.h=c.h
 n:g.n=(c.w*c.h).toNat
 ks:g.ks=gridL (c.w*c.h).toNat c.w f
theorem kindTo_bd {B:Nat} {l:List Cell} {x:Cell} (h:l.length<=B+8): -2<=kindTo B l x/\kindTo B l x<=8:=by
 unfold kindTo
 split
 · rename_i hx
   have:=List.idxOf_lt_length_iff.2 hx
   split<;>omega
 · omega
theorem upto_snoc {α:Type} {l:List α} {j:Nat} {u:α} {p:α->Prop} (h:l.take (j+1)=l.take j++[u]) (h1: ∀ x∈l.take j,p x) (h2:p u): ∀ x∈l.take (j+1),p x:=by
 intro x hx
 rw [h,List.mem_append,List.mem_singleton] at hx
 rcases hx with hx|rfl
 · exact h1 x hx
 · exact h2
theorem nodup_snoc {α:Type} {l:List α} {u:α} (h:l.Nodup) (hu:u ∉ l):(l++[u]).Nodup:=by
 rw [List.nodup_append]
 refine ⟨h,by simp,fun a ha b hb=>?_⟩
 rw [List.mem_singleton] at hb
 subst hb
 exact fun e=>hu (e ▸ ha)
def rGrid (g:GridV):List Res:=[rBlk g.p g.cells 148,rOw 3 elInt g.kv g.ks]
def NilFalse (w:World) (e:Ending) (w':World):Prop:=e=.returned (.tuple #[.pointer none,.bool false])/\Mod none' w w'
def LaidPost (c:ConfP) (w:World) (e:Ending) (w':World):Prop:=(¬ LaidP c/\NilFalse w e w')\/(LaidP c/\ ∃ g,e=.returned (.tuple #[g.ptr,.bool true])/\GridOf c g (kindL c)/\Turns (rGrid g) w w' none')
set_option maxHeartbeats 8000000 in
theorem laid_calls {c:ConfV} {w:World} (hc:Has w (rConf c)) (hz:Sized c):Calls Tryz.prog 84 #[.agg c.cells.toArray] w (LaidPost c.p w):=by
 have hK:=((Know.start (L:=[rConf c]) w (by simpa using hc)).conf (c:=c) (by simp)).subL (L':=[rRd elCell c.blocked.val c.blocked.l,rRd elCell c.ports.val c.ports.l]) (by simp)
 have k1:=Lib.hid (gr_within c.w 1 16)
 have k2:=Lib.hid (gr_within c.h 1 16)
 obtain ⟨q1,hq1⟩: ∃ q,q=Go.Sk.within c.w 1 16:=⟨_,rfl⟩
 obtain ⟨q2,hq2⟩: ∃ q,q=Go.Sk.within c.h 1 16:=⟨_,rfl⟩
 rw [<-hq1] at k1
 rw [<-hq2] at k2
 have Q1:=Lib.hid hq1
 have Q2:=Lib.hid hq2
 clear hq1 hq2
 have hcs:q1=false\/(q1=true/\q2=false)\/(q1=true/\q2=true/\8<c.ports.l.length)\/(q1=true/\q2=true/\c.ports.l.length<=8):=by
  cases q1<;>cases q2<;>simp;omega
 rcases hcs with rfl|⟨rfl,rfl⟩|⟨rfl,rfl,g1⟩|⟨rfl,rfl,g1⟩
 · go_enter Tryz.func84,Tryz.ntmps84
   go_wp2_with (first
    |((with_reducible refine wb 1 ?_)
      (refine wl_boxK hK rfl rfl rfl rfl ?_;clear hK;intro w1 b1 hK))
    |(go_at_call 83;(refine (hK.quiet (k1.out _)).mono ?_;clear hK;rintro e w' ⟨rfl,hK⟩))
    |go_big_skip
    |((with_reducible refine wl ?_);refine ld ?_)
    |(with_reducible refine en ?_))
   go_ret2
   exact .inl ⟨(fun h=>by have:=Q1.out.trans h.w;cases this),rfl,hK.mod⟩
 · go_enter Tryz.func84,Tryz.ntmps84
   go_wp2_with (first
    |((with_reducible refine wb 1 ?_)
      (refine wl_boxK hK rfl rfl rfl rfl ?_;clear hK;intro w1 b1 hK))
    |(go_at_call 83;first
       |(with_reducible refine (hK.quiet (k1.out _)).mono ?_);clear hK;rintro e w' ⟨rfl,hK⟩
       |(with_reducible refine (hK.quiet (k2.out _)).mono ?_);clear hK;rintro e w' ⟨rfl,hK⟩)
    |go_big_skip
    |((with_reducible refine wl ?_);refine ld ?_)
    |(with_reducible refine en ?_))
   go_ret2
   exact .inl ⟨(fun h=>by have:=Q2.out.trans h.h;cases this),rfl,hK.mod⟩
 · have e1:decide ((8:Int)<(c.ports.l.length:Int))=true:=decide_eq_true (by omega)
   go_enter Tryz.func84,Tryz.ntmps84
   go_wp2_with (first
    |((with_reducible refine wb 1 ?_)
      (refine wl_boxK hK rfl rfl rfl rfl ?_;clear hK;intro w1 b1 hK))
    |(go_at_call 83;first
       |(with_reducible refine (hK.quiet (k1.out _)).mono ?_);clear hK;rintro e w' ⟨rfl,hK⟩
       |(with_reducible refine (hK.quiet (k2.out _)).mono ?_);clear hK;rintro e w' ⟨rfl,hK⟩)
    |go_big_skip
    |((with_reducible refine wl ?_);refine ld ?_)
    |(with_reducible refine en ?_))
   go_ret2
   exact .inl ⟨fun h=>by have:c.ports.l.length<=8:=h.ports8;omega,rfl,hK.mod⟩
 have e1:decide ((8:Int)<(c.ports.l.length:Int))=false:=decide_eq_false (by omega)
 have hw:=Go.Sk.within_iff.1 Q1.out.symm
 have hh:=Go.Sk.within_iff.1 Q2.out.symm
 obtain ⟨hw1,hw2⟩:=hw
 obtain ⟨hh1,hh2⟩:=hh
 have hA1:1*1<=c.w*c.h:=Int.mul_le_mul hw1 hh1 (by omega) (by omega)
 have hA2:c.w*c.h<=16*16:=Int.mul_le_mul hw2 hh2 (by omega) (by omega)
 obtain ⟨A,hA⟩: ∃ A:Nat,c.w*c.h=(A:Int):=⟨(c.w*c.h).toNat,by omega⟩
 rw [hA] at hA1 hA2
 have hA3:1<=A/\A<=256:=by omega
 have HA:=Lib.hid hA
 by_cases hbl:A<c.blocked.l.length
 · have e2:decide (A<c.blocked.l.length)=true:=decide_eq_true hbl
   have e3:decide ((A:Int)<(c.blocked.l.length:Int))=true:=decide_eq_true (by omega)
   go_enter Tryz.func84,Tryz.ntmps84
   go_wp2_with (first
    |((with_reducible refine wb 1 ?_)
      (refine wl_boxK hK rfl rfl rfl rfl ?_;clear hK;intro w1 b1 hK))
    |(go_at_call 83;first
       |(with_reducible refine (hK.quiet (k1.out _)).mono ?_);clear hK;rintro e w' ⟨rfl,hK⟩
       |(with_reducible refine (hK.quiet (k2.out _)).mono ?_);clear hK;rintro e w' ⟨rfl,hK⟩)
    |go_big_skip
    |((with_reducible refine wl ?_);refine ld ?_)
    |(with_reducible refine en ?_))
   go_ret2
   exact .inl ⟨fun h=>by have h1:=h.blocked;have h2:c.p.w*c.p.h=A:=HA.out;have h3:c.p.blocked.length=c.blocked.l.length:=rfl;omega,rfl,hK.mod⟩
 · have e2:decide (A<c.blocked.l.length)=false:=decide_eq_false hbl
   have e3:decide ((A:Int)<(c.blocked.l.length:Int))=false:=decide_eq_false (by omega)
   have hb256:c.blocked.l.length<=256:=by omega
   go_enter Tryz.func84,Tryz.ntmps84
   go_wp2_with (first
    |((with_reducible refine wb 1 ?_)
      (refine wl_boxK hK rfl rfl rfl rfl ?_;clear hK;intro w1 b1 hK))
    |(go_at_call 83;first
       |(with_reducible refine (hK.quiet (k1.out _)).mono ?_);clear hK;rintro e w' ⟨rfl,hK⟩
       |(with_reducible refine (hK.quiet (k2.out _)).mono ?_);clear hK;rintro e w' ⟨rfl,hK⟩)
    |((with_reducible refine wt 45 ?_)
      (refine wl_makeK (n:=A) 0 hK intTy rfl rfl rfl rfl rfl (by omega) (by unfold maxLen;omega) ?_;clear hK;intro adk w45 hK))
    |((with_reducible refine wb 47 ?_)
      (refine wl_boxK hK rfl rfl rfl rfl ?_;clear hK;intro w47 b47 hK))
    |((with_reducible refine wt 53 ?_)
      (refine wl_makeK (n:=A) false hK boolTy rfl rfl rfl rfl rfl (by omega) (by unfold maxLen;omega) ?_;clear hK;intro ads w53 hK))
    |(go_at_call 105;(refine (listCell_calls (s:=c.blocked) hK.rd (by omega)).mono ?_;rintro e w' ⟨adl,capl,rfl,hT⟩;replace hK:=hK.push1 hT;clear hT))
    |((with_reducible refine wt 59 ?_)
      (refine wl_appK (xs:=c.blocked.l) (ys:=c.ports.l) hK cellTy rfl rfl rfl rfl hK.rd (by unfold maxLen;omega) (by omega) (h:=?_);clear hK;intro ada N capa w59 hN hK;replace hN:=Lib.hid hN;simp only [z0,z1] at hK))
    |((with_reducible refine wp_region_stableK (id:=3) hK [1,3] [rBlk b1 c.cells 26] (by kernel_rfl) (by kernel_rfl) (by simp) (by kernel_rfl) ?_);clear hK;intro w' hK)
    |(with_reducible refine wpC_of ?_)
    |(with_reducible refine atEndC (hK.cls (by simp)) ?_)
    |((with_reducible refine wpC_end' ?_);refine wpC_nil ⟨by kernel_rfl,stays_loadK rfl rfl rfl rfl (scalT (by decide)) rfl (rest:=stays_loadK rfl rfl rfl rfl (scalT (by decide)) rfl (rest:=stays_nil)),?_⟩)
    |((with_reducible refine wp_region_stableK (id:=5) hK [4] [rBlk b1 c.cells 26] (by kernel_rfl) (by kernel_rfl) (by simp) (by kernel_rfl) ?_);clear hK;intro w' hK)
    |(with_reducible refine wpC_of ?_)
    |(with_reducible refine atEndC (hK.cls (by simp)) ?_)
    |((with_reducible refine wpC_end' ?_);refine wpC_nil ⟨by kernel_rfl,stays_loadK rfl rfl rfl rfl (scalT (by decide)) rfl (rest:=stays_nil),?_⟩)
    |go_big_skip
    |((with_reducible refine wl ?_);refine ld ?_)
    |(with_reducible refine en ?_))
   obtain ⟨all,hall⟩: ∃ all,all=c.blocked.l++c.ports.l:=⟨_,rfl⟩
   rw [<-hall] at hK hN
   have hNx:=hN.out
   subst hNx
   have hlen:all.length=c.blocked.l.length+c.ports.l.length:=by rw [hall,List.length_append]
   have hl264:all.length<=264:=by omega
   have hl8:all.length<=c.blocked.l.length+8:=by omega
   have HALL:=Lib.hid hall
   have s1:List.replicate A false=gridL A c.w (fun y=>decide (y∈all.take 0)):=(gridL_const (w:=c.w) false).trans (congrArg (gridL A c.w) (funext fun y=>by simp))
   have s2:List.replicate A (0:Int)=gridL A c.w (kindTo (c.blocked.l.length) (all.take 0)):=(gridL_const (w:=c.w) (0:Int)).trans (congrArg (gridL A c.w) (funext fun y=>by simp [kindTo]))
   rw [s1,s2] at hK
   clear s1 s2 hall hlen hA
   go_loopw [61,2,3] (fun i r2 r3 wr=> ∃ j:Nat,i=.int .i64 j/\r2=.pointer none/\r3=.bool false/\j<=all.length/\Hid (∀ x∈all.take j,inW c.w c.h x=true)/\Hid (all.take j).Nodup/\Know w wr none' [rOw 34 elCell (.slice ada all.length capa) all,rOw 4 elBool (.slice ads A A) (gridL A c.w (fun y=>decide (y∈all.take j))),rBlk b47 [.int .i64 c.w,.int .i64 c.h,.slice adk A A] 148,rOw 3 elInt (.slice adk A A) (gridL A c.w (kindTo (c.blocked.l.length) (all.take j))),rBlk b1 c.cells 26] []) (fun i _ _ _=>all.length - (intOf i).toNat)
   case atStart=>exact ⟨0,rfl,rfl,rfl,Nat.zero_le _,by show ∀ x∈_,_;simp,by show List.Nodup _;simp,hK.subL (by simp)⟩
   case round=>
    obtain ⟨j,rfl,rfl,rfl,hj,hIn,hNd,hK⟩:=hrel
    by_cases hlt:j<all.length
    · obtain ⟨u,hu⟩: ∃ u,all[j]?=some u:=⟨_,List.getElem?_eq_getElem hlt⟩
      have HU:=Lib.hid hu
      have htk:=Lib.hid (show all.take (j+1)=all.take j++[u] by rw [List.take_add_one,hu];rfl)
      clear hu
      obtain ⟨g,hg⟩: ∃ g:GridV,g=⟨b47,c.w,c.h,adk,A,A,gridL A c.w (kindTo (c.blocked.l.length) (all.take j))⟩:=⟨_,rfl⟩
      have hGok:GridOk g:=by
       subst hg
       exact ⟨⟨hw1,hw2⟩,⟨hh1,hh2⟩,by rw [gridL_len];exact HA.out.symm,fun k hk=>by
        obtain ⟨n,_,rfl⟩:=gridL_mem hk
        exact kindTo_bd (by rw [List.length_take];omega)⟩
      have kn:=Lib.hid (fun (W:World) (h:GridAt W g)=>gr_number (x:=u) h hGok)
      have hgp:Hid (g=⟨b47,c.w,c.h,adk,A,A,gridL A c.w (kindTo (c.blocked.l.length) (all.take j))⟩):=hg
      have kn2:=Lib.hid (fun (W:World) (h1:Blk W b47 [.int .i64 c.w,.int .i64 c.h,.slice adk A A] 148) (h2:Rd W elInt (.slice adk A A) (gridL A c.w (kindTo (c.blocked.l.length) (all.take j))))=>show Calls Tryz.prog 62 #[.pointer (some ⟨b47,0,none⟩),.agg u.cells.toArray] W (Ret (.int .i64 (numG g u)) W) by
       have:=kn.out W (by subst hg;exact ⟨h1,h2⟩)
       subst hg
       exact this)
      clear kn
      have hng:Hid (inG g u=inW c.w c.h u):=by
       show _=_
       subst hg
       rw [Bool.eq_iff_iff,inG_iff,inW_iff]
       simp only
       omega
      by_cases hi:inW c.w c.h u=true
      · have hnum:=Lib.hid (show numG g u=u.y*c.w+u.x by subst hg;unfold numG;rw [hng.out,if_pos hi])
        obtain ⟨i1,i2,i3,i4⟩:=inW_iff.1 hi
        have p0:0<=u.y*c.w:=Int.mul_nonneg i2 (by omega)
        obtain ⟨m,hm⟩: ∃ m:Nat,u.y*c.w+u.x=(m:Int):=⟨(u.y*c.w+u.x).toNat,by omega⟩
        have hmA:=num_lt HA.out hi hm
        have HI:=Lib.hid hi
        have HM:=Lib.hid hm
        rw [hnum.out,hm] at kn2
        have HS:=Lib.hid (gridL_get (f:=fun y=>decide (y∈all.take j)) HA.out hi hm)
        have HK1:=Lib.hid (gridL_get (f:=kindTo (c.blocked.l.length) (all.take j)) HA.out hi hm)
        have HK2:Hid (((gridL A c.w (kindTo (c.blocked.l.length) (all.take j))).set m (-1))[m]?=some (-1)):=by
         show _=_
         rw [List.getElem?_set_self (by rw [gridL_len];exact hmA)]
        have hl1:Hid (m<(gridL A c.w (fun y=>decide (y∈all.take j))).length):=by show _<_;rw [gridL_len];exact hmA
        have hl2:Hid (m<(gridL A c.w (kindTo (c.blocked.l.length) (all.take j))).length):=by show _<_;rw [gridL_len];exact hmA
        have hl3:Hid (m<((gridL A c.w (kindTo (c.blocked.l.length) (all.take j))).set m (-1)).length):=by show _<_;rw [List.length_set,gridL_len];exact hmA
        clear hi hm i1 i2 i3 i4 p0 hg
        by_cases hseen:u∈all.take j
        · have hsd:Hid (decide (u∈all.take j)=true):=decide_eq_true hseen
          rw [hsd.out] at HS
          have hseen2:=Lib.hid hseen
          clear hseen
          go_wp2_with (first
           |((with_reducible refine wt 64 ?_)
             (refine wl_ixK hK rfl rfl rfl rfl cellTy.und cellTy.size (h:=?_);intro b64 k64 hat64))
           |((with_reducible refine wl_at (o:=⟨some 7,.alloc _,_,_,_,_⟩) ?_)
             (refine wl_allocK (z:=.agg (cellZ).toArray) (zs:=cellZ) hK rfl rfl (by kernel_rfl) rfl ?_;clear hK;intro w7 b7 hK))
           |((with_reducible refine wl_at (o:=⟨none,.store 34 _ _,_,_,_,_⟩) ?_)
             (refine wl_storeWK (vs:=Cell.cells u) hK rfl rfl rfl rfl (aggS (by decide)) (elCell.one u) (h:=?_);clear hK;intro w' hK;simp only [z0,z1] at hK))
           |(go_at_call 62;(refine (hK.quiet (kn2.out _ hK.blk hK.rd)).mono ?_;clear hK;rintro e w' ⟨rfl,hK⟩))
           |((with_reducible refine wt 74 ?_)
             (refine wl_ixK hK rfl rfl rfl rfl boolTy.und boolTy.size (h:=?_);intro b74 k74 hat74))
           |go_big_skip
           |((with_reducible refine wl ?_);refine ld ?_)
           |(with_reducible refine en ?_))
          go_ret2
          refine .inl ⟨fun h=>?_,rfl,hK.mod⟩
          have hnd:all.Nodup:=by rw [HALL.out];exact h.apart
          have h2:=hnd.sublist (List.take_sublist (j+1) all)
          rw [htk.out,List.nodup_append] at h2
          exact h2.2.2 u hseen2.out u (by simp) rfl
        · have hsd:Hid (decide (u∈all.take j)=false):=decide_eq_false hseen
          rw [hsd.out] at HS
          have hseen2:=Lib.hid hseen
          clear hseen
          have E1:=Lib.hid (show (gridL A c.w (fun y=>decide (y∈all.take j))).set m true=gridL A c.w (fun y=>decide (y∈all.take (j+1))) by
           rw [gridL_set hw1 HA.out HI.out HM.out,htk.out]
           congr 1
           funext y
           by_cases e:y=u<;>simp [e])
          have hju:(all.take j).length=j:=by rw [List.length_take];omega
          have HJU:=Lib.hid hju
          clear hju
          by_cases hjB:j<c.blocked.l.length
          all_goals
           first|have d1:decide (c.blocked.l.length<=j)=false:=decide_eq_false (by omega)|have d1:decide (c.blocked.l.length<=j)=true:=decide_eq_true (by omega)
           first|have d2:decide ((c.blocked.l.length:Int)<=(j:Int))=false:=decide_eq_false (by omega)|have d2:decide ((c.blocked.l.length:Int)<=(j:Int))=true:=decide_eq_true (by omega)
           go_wp2_with (first
            |((with_reducible refine wt 64 ?_)
              (refine wl_ixK hK rfl rfl rfl rfl cellTy.und cellTy.size (h:=?_);intro b64 k64 hat64))
            |((with_reducible refine wl_at (o:=⟨some 7,.alloc _,_,_,_,_⟩) ?_)
              (refine wl_allocK (z:=.agg (cellZ).toArray) (zs:=cellZ) hK rfl rfl (by kernel_rfl) rfl ?_;clear hK;intro w7 b7 hK))
            |((with_reducible refine wl_at (o:=⟨none,.store 34 _ _,_,_,_,_⟩) ?_)
              (refine wl_storeWK (vs:=Cell.cells u) hK rfl rfl rfl rfl (aggS (by decide)) (elCell.one u) (h:=?_);clear hK;intro w' hK;simp only [z0,z1] at hK))
            |(go_at_call 62;(refine (hK.quiet (kn2.out _ hK.blk hK.rd)).mono ?_;clear hK;rintro e w' ⟨rfl,hK⟩))
            |((with_reducible refine wt 74 ?_)
              (refine wl_ixK hK rfl rfl rfl rfl boolTy.und boolTy.size (h:=?_);intro b74 k74 hat74))
            |((with_reducible refine wt 79 ?_);(refine wl_ixO hK rfl rfl rfl rfl boolTy.und boolTy.size (h:=?_);intro b79 k79 hat79 hsp79))
            |((with_reducible refine wl_at (o:=⟨none,.store 4 _ _,_,_,_,_⟩) ?_);(refine wl_storeE true hK rfl rfl rfl rfl (sizT (by decide)) hsp79 (hlt:=hl1.out) (h:=?_);clear hK;intro w' hK;simp only [z0,z1] at hK;rw [E1.out] at hK))
            |((with_reducible refine wt 85 ?_);(refine wl_ixO hK rfl rfl rfl rfl intTy.und intTy.size (hu:=HK1) (h:=?_);intro b85 k85 hat85 hsp85))
            |((with_reducible refine wl_at (o:=⟨none,.store 3 (.tmp 85) _,_,_,_,_⟩) ?_);(refine wl_storeE (-1) hK rfl rfl rfl rfl (sizT (by decide)) hsp85 (hlt:=hl2.out) (h:=?_);clear hK;intro w' hK;simp only [z0,z1] at hK))
            |((with_reducible refine wt 102 ?_);(refine wl_ixO hK rfl rfl rfl rfl intTy.und intTy.size (hu:=HK2) (h:=?_);intro b102 k102 hat102 hsp102))
            |((with_reducible refine wl_at (o:=⟨none,.store 3 (.tmp 102) _,_,_,_,_⟩) ?_);(refine wl_storeE ((j:Int) - (c.blocked.l.length:Int)+1) hK rfl rfl rfl rfl (sizT (by decide)) hsp102 (hlt:=hl3.out) (h:=?_);clear hK;intro w' hK;simp only [z0,z1] at hK))
            |((with_reducible refine tx 14 hK ?_);clear hK;intro w' hK)
            |go_big_skip
            |((with_reducible refine wl ?_);refine ld ?_)
            |(with_reducible refine en ?_))
          · go_roundw
            case rel=>
             have E2:(gridL A c.w (kindTo (c.blocked.l.length) (all.take j))).set m (-1)=gridL A c.w (kindTo (c.blocked.l.length) (all.take (j+1))):=by
              rw [gridL_set hw1 HA.out HI.out HM.out,htk.out]
              congr 1
              funext y
              rw [kindTo_snoc c.blocked.l.length hseen2.out,HJU.out,if_pos hjB]
             rw [E2] at hK
             refine ⟨j+1,by go_num,rfl,rfl,by omega,upto_snoc htk.out hIn.out HI.out,?_,hK.sub (.cons _ (List.Sublist.refl _))⟩
             show List.Nodup _
             rw [htk.out]
             exact nodup_snoc hNd.out hseen2.out
            case measure=>simp [intOf];omega
          · go_roundw
            case rel=>
             have E2:((gridL A c.w (kindTo (c.blocked.l.length) (all.take j))).set m (-1)).set m ((j:Int) - (c.blocked.l.length:Int)+1)=gridL A c.w (kindTo (c.blocked.l.length) (all.take (j+1))):=by
              rw [List.set_set,gridL_set hw1 HA.out HI.out HM.out,htk.out]
              congr 1
              funext y
              rw [kindTo_snoc c.blocked.l.length hseen2.out,HJU.out,if_neg hjB]
             rw [E2] at hK
             refine ⟨j+1,by go_num,rfl,rfl,by omega,upto_snoc htk.out hIn.out HI.out,?_,hK.sub (.cons _ (List.Sublist.refl _))⟩
             show List.Nodup _
             rw [htk.out]
             exact nodup_snoc hNd.out hseen2.out
            case measure=>simp [intOf];omega
      · have hnum:=Lib.hid (show numG g u= -1 by subst hg;unfold numG;rw [hng.out,if_neg hi])
        rw [hnum.out] at kn2
        have HI:=Lib.hid hi
        clear hi hg
        go_wp2_with (first
         |((with_reducible refine wt 64 ?_)
           (refine wl_ixK hK rfl rfl rfl rfl cellTy.und cellTy.size (h:=?_);intro b64 k64 hat64))
         |((with_reducible refine wl_at (o:=⟨some 7,.alloc _,_,_,_,_⟩) ?_)
           (refine wl_allocK (z:=.agg (cellZ).toArray) (zs:=cellZ) hK rfl rfl (by kernel_rfl) rfl ?_;clear hK;intro w7 b7 hK))
         |((with_reducible refine wl_at (o:=⟨none,.store 34 _ _,_,_,_,_⟩) ?_)
           (refine wl_storeWK (vs:=Cell.cells u) hK rfl rfl rfl rfl (aggS (by decide)) (elCell.one u) (h:=?_);clear hK;intro w' hK;simp only [z0,z1] at hK))
         |(go_at_call 62;(refine (hK.quiet (kn2.out _ hK.blk hK.rd)).mono ?_;clear hK;rintro e w' ⟨rfl,hK⟩))
         |go_big_skip
         |((with_reducible refine wl ?_);refine ld ?_)
         |(with_reducible refine en ?_))
        go_ret2
        exact .inl ⟨fun h=>HI.out (h.inside u (by have:=List.mem_of_getElem? HU.out;rw [HALL.out] at this;exact this)),rfl,hK.mod⟩
    · obtain rfl:j=all.length:=by omega
      go_wp2_with (first
       |go_big_skip
       |((with_reducible refine wl ?_);refine ld ?_)
       |(with_reducible refine en ?_))
      go_ret2
      rw [List.take_length] at hK
      have hin:=hIn.out
      have hnd:=hNd.out
      rw [List.take_length] at hin hnd
      rw [HALL.out] at hin hnd
      have hAe:(c.p.w*c.p.h).toNat=A:=by have:c.p.w*c.p.h=A:=HA.out;omega
      refine .inr ⟨⟨Q1.out.symm,Q2.out.symm,g1,by have h2:c.p.w*c.p.h=A:=HA.out;have h3:c.p.blocked.length=c.blocked.l.length:=rfl;omega,hin,hnd⟩,⟨b47,c.w,c.h,adk,A,A,gridL A c.w (kindTo (c.blocked.l.length) all)⟩,rfl,⟨rfl,rfl,hAe.symm,?_⟩,(hK.sub (.cons _ (.cons _ (.cons_cons _ (.cons_cons _ (.cons _ .slnil)))))).turns⟩
      rw [hAe,HALL.out]
      show gridL A c.w _=gridL A c.p.w _
      congr 1
      funext y
      exact kindTo_all c.p y
end Go.Proofs.YtngeeilkpnihmaaGreatDoor
namespace Go.Proofs.YtngeeilkpnihmaaGreatDoor
open Go Go.Sk Go.RowKit
set_option maxRecDepth 100000
section
variable {c:ConfP} {b A cap:Nat} {ad:Option Addr} {f:Cell->Int}
abbrev mkG (c:ConfP) (b A cap:Nat) (ad:Option Addr) (f:Cell->Int):GridV:=⟨b,c.w,c.h,ad,A,cap,gridL A c.w f⟩
theorem mkG_ok (hl:LaidP c) (hA:c.w*c.h=A) (hf: ∀ x, -2<=f x/\f x<=8):GridOk (mkG c b A cap ad f):=
 ⟨Go.Sk.within_iff.1 hl.w,Go.Sk.within_iff.1 hl.h,by rw [gridL_len];exact hA.symm,fun k hk=>by
   obtain ⟨n,_,rfl⟩:=gridL_mem hk
   exact hf _⟩
theorem mkG_in (x:Cell):inG (mkG c b A cap ad f) x=inB c x:=by
 rw [Bool.eq_iff_iff,inG_iff,inB_iff]
 have e1:(mkG c b A cap ad f).w=c.w:=rfl
 have e2:(mkG c b A cap ad f).h=c.h:=rfl
 rw [e1,e2]
 omega
theorem mkG_num {x:Cell} (hi:inB c x=true):numG (mkG c b A cap ad f) x=x.y*c.w+x.x:=by
 unfold numG;rw [mkG_in,if_pos hi]
theorem mkG_kd {x:Cell} (hA:c.w*c.h=A) (hi:inB c x=true):kd (mkG c b A cap ad f) x=f x:=by
 have h1:=numOf_bd hi
 unfold numOf at h1
 unfold kd
 rw [mkG_num hi,List.getD_eq_getElem?_getD,gridL_get hA hi (by omega)]
 rfl
theorem mkG_open (hA:c.w*c.h=A) (hf: ∀ x,f x= -1 ↔ x∈c.blocked) (x:Cell):openG (mkG c b A cap ad f) x=openB c x:=by
 rw [Bool.eq_iff_iff,openB_iff]
 unfold openG
 rw [Bool.and_eq_true,mkG_in,decide_eq_true_eq]
 constructor
 · rintro ⟨h1,h2⟩
   rw [mkG_kd hA h1] at h2
   exact ⟨h1,fun h=>h2 ((hf x).2 h)⟩
 · rintro ⟨h1,h2⟩
   refine ⟨h1,?_⟩
   rw [mkG_kd hA h1]
   exact fun h=>h2 ((hf x).1 h)
theorem mkG_fits (hA:c.w*c.h=A) (hf: ∀ x,f x= -1 ↔ x∈c.blocked) (p:Pose):fitsG (mkG c b A cap ad f) p=fitsB c p:=by
 unfold fitsG fitsB
 rw [mkG_open hA hf,mkG_open hA hf]
end
def RobPost (c:ConfP) (b A cap:Nat) (ad:Option Addr) (S:Nat->Prop) (w:World) (e:Ending) (w':World):Prop:=
 (¬ RobP c/\e=.returned (.bool false)/\Mod S w w')\/(RobP c/\e=.returned (.bool true)/\Turns (rGrid (mkG c b A cap ad (kind2 c (homes c)))) w w' S)
def poseZ:List Value:=[.int .i64 0,.int .i64 0,.bool false]
set_option maxHeartbeats 8000000 in
theorem robots_calls {c:ConfV} {b A cap:Nat} {ad:Option Addr} {w:World} {S:Nat->Prop} (hK:Know w w S (rGrid (mkG c.p b A cap ad (kindL c.p))) [rRd elPose c.robots.val c.robots.l,stepsR])
 (hA:c.w*c.h=A) (hl:LaidP c.p) (hz:Sized c) (hwf: ∀ p∈c.robots.l,PoseWf p):
 Calls Tryz.prog 85 #[.pointer (some ⟨b,0,none⟩),c.robots.val] w (RobPost c.p b A cap ad S w):=by
 have hK:Know w w S [rBlk b [.int .i64 c.w,.int .i64 c.h,.slice ad A cap] 148,rOw 3 elInt (.slice ad A cap) (gridL A c.w (kindL c.p))] [rRd elPose c.robots.val c.robots.l,stepsR]:=hK
 have HA:=Lib.hid hA
 have hw:1<=c.w/\c.w<=16:=Go.Sk.within_iff.1 hl.w
 have hh:1<=c.h/\c.h<=16:=Go.Sk.within_iff.1 hl.h
 obtain ⟨hw1,hw2⟩:=hw
 obtain ⟨hh1,hh2⟩:=hh
 have hA2:c.w*c.h<=16*16:=Int.mul_le_mul hw2 hh2 (by omega) (by omega)
 have hA256:A<=256:=by omega
 clear hA hA2
 have hne:(c.w == 0)=false:=beq_eq_false_iff_ne.2 (by omega)
 have hfit:=Lib.hid (fun (W:World) (f:Cell->Int) (hf: ∀ x,f x= -1 ↔ x∈c.p.blocked) (hf2: ∀ x, -2<=f x/\f x<=8) (p:Pose) (h1:Blk W b [.int .i64 c.w,.int .i64 c.h,.slice ad A cap] 148) (h2:Rd W elInt (.slice ad A cap) (gridL A c.w f)) (h3:Has W stepsR) (hp:PoseWf p)=>
  show Calls Tryz.prog 106 #[.pointer (some ⟨b,0,none⟩),.agg p.cells.toArray] W (Ret (.bool (fitsB c.p p)) W) by
   have:=gr_fits (g:=mkG c.p b A cap ad f) (p:=p) ⟨h1,h2⟩ (mkG_ok hl HA.out hf2) h3 hp
   rw [mkG_fits HA.out hf] at this
   exact this)
 have hnum:=Lib.hid (fun (W:World) (f:Cell->Int) (hf2: ∀ x, -2<=f x/\f x<=8) (x:Cell) (m:Nat) (hi:inB c.p x=true) (hm:x.y*c.w+x.x=m) (h1:Blk W b [.int .i64 c.w,.int .i64 c.h,.slice ad A cap] 148) (h2:Rd W elInt (.slice ad A cap) (gridL A c.w f))=>
  show Calls Tryz.prog 62 #[.pointer (some ⟨b,0,none⟩),.agg x.cells.toArray] W (Ret (.int .i64 (m:Int)) W) by
   have:=gr_number (g:=mkG c.p b A cap ad f) (x:=x) ⟨h1,h2⟩ (mkG_ok hl HA.out hf2)
   rw [mkG_num hi,show x.y*c.p.w+x.x=m from hm] at this
   exact this)
 have hb3:=hz.robots
 by_cases h8:8<c.robots.l.length
 · have e1:decide ((8:Int)<(c.robots.l.length:Int))=true:=decide_eq_true (by omega)
   go_enter Tryz.func85,Tryz.ntmps85
   go_wp2_with (first
    |go_big_skip
    |((with_reducible refine wl ?_);refine ld ?_)
    |(with_reducible refine en ?_))
   go_ret
   exact .inl ⟨(fun h=>by have:c.robots.l.length<=8:=h.robots8;omega),rfl,hK.mod⟩
 have e1:decide ((8:Int)<(c.robots.l.length:Int))=false:=decide_eq_false (by omega)
 have h8':c.robots.l.length<=8:=by omega
 clear h8
 have s1:gridL A c.w (kindL c.p)=gridL A c.w (kind1 c.p 0):=gridL_congr hw1 HA.out fun y hy=>by
  unfold kind1
  obtain ⟨i1,i2,i3,i4⟩:=inW_iff.1 hy
  have:0<=y.y*c.w:=Int.mul_nonneg i2 (by omega)
  have e:c.p.w=c.w:=rfl
  rw [if_neg]
  rintro ⟨h,_⟩
  rw [e] at h
  omega
 rw [s1] at hK
 clear s1
 go_enter Tryz.func85,Tryz.ntmps85
 go_wp2_with (first
  |go_big_skip
  |((with_reducible refine wl ?_);refine ld ?_)
  |(with_reducible refine en ?_))
 go_loopw [21,4] (fun i r wr=> ∃ n:Nat,i=.int .i64 n/\r=.bool false/\n<=A/\Hid (∀ x∈c.p.ports,x.y*c.w+x.x<n->besideB c.p x=true)/\Know w wr S [rBlk b [.int .i64 c.w,.int .i64 c.h,.slice ad A cap] 148,rOw 3 elInt (.slice ad A cap) (gridL A c.w (kind1 c.p n))] [rRd elPose c.robots.val c.robots.l,stepsR]) (fun i _ _=>A - (intOf i).toNat)
 case atStart=>
  refine ⟨0,rfl,rfl,Nat.zero_le _,?_,hK⟩
  intro x hx h
  have hi:=hl.inside x (by simp [hx])
  have:=numOf_bd hi
  unfold numOf at this
  have e:c.p.w=c.w:=rfl
  rw [e] at this
  omega
 case round=>
  obtain ⟨n,rfl,rfl,hn,hbes,hK⟩:=hrel
  by_cases hlt:n<A
  · obtain ⟨x,hx⟩: ∃ x,x=cellAt c.w n:=⟨_,rfl⟩
    have hi:inB c.p x=true:=by rw [hx];exact cellAt_in hw1 HA.out hlt
    have hxn:=Lib.hid (show x.y*c.w+x.x=n by rw [hx];exact cellAt_num hw1 n)
    have hxx:(n:Int) % c.w=x.x:=by rw [hx];rfl
    have hxy:(n:Int) / c.w=x.y:=by rw [hx];rfl
    have HI:=Lib.hid hi
    have hib:=inB_iff.1 hi
    have e2:c.p.w=c.w:=rfl
    have e3:c.p.h=c.h:=rfl
    have hpE:PoseWf ⟨x,false⟩:=⟨⟨by show _<=x.x;omega,by show x.x<=_;omega⟩,⟨by show _<=x.y;omega,by show x.y<=_;omega⟩⟩
    have hpS:PoseWf ⟨x,true⟩:=⟨⟨by show _<=x.x;omega,by show x.x<=_;omega⟩,⟨by show _<=x.y;omega,by show x.y<=_;omega⟩⟩
    have hk1:kind1 c.p n x=kindL c.p x:=by unfold kind1;rw [if_neg];rintro ⟨h,_⟩;have:=hxn.out;rw [e2] at h;omega
    have HG:=Lib.hid (show (gridL A c.w (kind1 c.p n))[n]?=some (kindL c.p x) by rw [<-hk1];exact gridL_get HA.out hi hxn.out)
    have kE:=Lib.hid (fun (W:World) h1 h2 h3=>hfit.out W (kind1 c.p n) (fun y=>kind1_open) (kind1_bd hl.ports8 n) ⟨x,false⟩ h1 h2 h3 hpE)
    have kS:=Lib.hid (fun (W:World) h1 h2 h3=>hfit.out W (kind1 c.p n) (fun y=>kind1_open) (kind1_bd hl.ports8 n) ⟨x,true⟩ h1 h2 h3 hpS)
    have v1:0<=x.x:=hib.1
    have v2:x.x<=15:=by omega
    have v3:0<=x.y:=hib.2.1
    have v4:x.y<=15:=by omega
    clear hi hib hk1 hx
    obtain ⟨k,hk⟩: ∃ k,k=kindL c.p x:=⟨_,rfl⟩
    obtain ⟨qE,hqE⟩: ∃ q,q=fitsB c.p ⟨x,false⟩:=⟨_,rfl⟩
    obtain ⟨qS,hqS⟩: ∃ q,q=fitsB c.p ⟨x,true⟩:=⟨_,rfl⟩
    rw [<-hk] at HG
    rw [<-hqE] at kE
    rw [<-hqS] at kS
    have HK:=Lib.hid hk
    have HE:=Lib.hid hqE
    have HSo:=Lib.hid hqS
    have hkn:=kindL_nat (c:=c.p) x
    rw [<-hk] at hkn
    have hopen:Hid (k≠ -1->openB c.p x=true):=fun h=>openB_iff.2 ⟨HI.out,fun hb=>h (by rw [HK.out];exact kindL_open.2 hb)⟩
    clear hk hqE hqS e2 e3
    have hcs:k= -1\/(k≠ -1/\qE=true)\/(k≠ -1/\qE=false/\qS=true)\/(k≠ -1/\qE=false/\qS=false/\0<k)\/(k≠ -1/\qE=false/\qS=false/\k=0):=by
     by_cases h1:k= -1
     · exact .inl h1
     · cases qE
       · cases qS
         · by_cases h2:0<k
           · exact .inr (.inr (.inr (.inl ⟨h1,rfl,rfl,h2⟩)))
           · exact .inr (.inr (.inr (.inr ⟨h1,rfl,rfl,by omega⟩)))
         · exact .inr (.inr (.inl ⟨h1,rfl,rfl⟩))
       · exact .inr (.inl ⟨h1,rfl⟩)
    have stay:Hid (¬ (k=0/\besideB c.p x=false)->gridL A c.w (kind1 c.p n)=gridL A c.w (kind1 c.p (n+1))):=fun h=>gridL_congr hw1 HA.out fun y hy=>by
     rw [kind1_succ,if_neg]
     rintro ⟨g1,g2,g3⟩
     have:y=x:=num_inj (c:=c.p) hy HI.out (g1.trans hxn.out.symm)
     subst this
     exact h ⟨HK.out.trans g2,g3⟩
    have next:Hid ((k= -1\/besideB c.p x=true\/k=0)-> ∀ y∈c.p.ports,y.y*c.w+y.x<(n+1:Nat)->besideB c.p y=true):=fun h y hy hlt=>by
     by_cases e:y.y*c.w+y.x<(n:Int)
     · exact hbes.out y hy e
     · have hyi:=hl.inside y (by simp [hy])
       have:y=x:=num_inj (c:=c.p) hyi HI.out (by have:=hxn.out;show y.y*c.w+y.x=x.y*c.w+x.x;omega)
       subst this
       have hnb:y ∉ c.p.blocked:=fun hb=>(List.nodup_append.1 hl.apart).2.2 y hb y hy rfl
       have hpos:=(kindL_port hnb).2 hy
       rw [<-HK.out] at hpos
       rcases h with h|h|h
       · omega
       · exact h
       · omega
    rcases hcs with rfl|⟨g1,rfl⟩|⟨g1,rfl,rfl⟩|⟨g1,rfl,rfl,g2⟩|⟨g1,rfl,rfl,rfl⟩
    all_goals
     try (have d1:(k == (-1:Int))=false:=beq_eq_false_iff_ne.2 g1)
     try (have d2:decide ((0:Int)<k)=true:=decide_eq_true g2)
     try replace g1:=Lib.hid g1
     go_wp2_with (first
      |((with_reducible refine wl_at (o:=⟨some 6,.alloc _,_,_,_,_⟩) ?_)
        (refine wl_allocK (z:=.agg (poseZ).toArray) (zs:=poseZ) hK rfl rfl (by kernel_rfl) rfl ?_;clear hK;intro w6 b6 hK))
      |((with_reducible refine wl_at (o:=⟨none,.store 36 _ _,_,_,_,_⟩) ?_)
        (refine wl_storeWK (vs:=Pose.cells ⟨x,false⟩) hK rfl rfl rfl rfl (aggS (by decide)) (elPose.one _) (h:=?_);clear hK;intro w' hK;simp only [z0,z1] at hK))
      |((with_reducible refine wt 43 ?_)
        (refine wl_ixK hK rfl rfl rfl rfl intTy.und intTy.size (h:=?_);intro b43 k43 hat43))
      |((with_reducible refine wt 63 ?_)
        (refine wl_ixK hK rfl rfl rfl rfl intTy.und intTy.size (h:=?_);intro b63 k63 hat63))
      |go_big_skip
      |((with_reducible refine wt 54 ?_)
        (refine wl_loadS rfl rfl rfl (aggT (by decide)) rfl (hK.blk.at (ds:=[.int .i64 x.x,.int .i64 x.y]) (o:=0) (fun j u h=>by rw [Nat.zero_add];rcases j with _|_|j<;>first|exact h|(simp at h))) ?_))
      |(go_at_call 106;first
         |(with_reducible refine (hK.quiet (kE.out _ hK.blk hK.rd (hK.has (by simp)))).mono ?_);clear hK;rintro e w' ⟨rfl,hK⟩
         |(refine (hK.quiet (kS.out _ hK.blk hK.rd (hK.has (by simp)))).mono ?_);clear hK;rintro e w' ⟨rfl,hK⟩)
      |((with_reducible refine wt 71 ?_);(refine wl_ixO hK rfl rfl rfl rfl intTy.und intTy.size (h:=?_);intro b71 k71 hat71 hsp71))
      |((with_reducible refine wl_at (o:=⟨none,.store 3 _ _,_,_,_,_⟩) ?_);(refine wl_storeE (-2) hK rfl rfl rfl rfl (sizT (by decide)) hsp71 (hlt:=by rw [gridL_len];exact hlt) (h:=?_);clear hK;intro w' hK;simp only [z0,z1] at hK))
      |((with_reducible refine tx 6 hK ?_);clear hK;intro w' hK)
      |go_big_skip
      |((with_reducible refine wl ?_);refine ld ?_)
      |(with_reducible refine en ?_))
    · go_roundw
      case rel=>
       rw [stay.out fun h=>by omega] at hK
       exact ⟨n+1,by go_num,rfl,by omega,next.out (.inl rfl),hK.sub (.cons _ (List.Sublist.refl _))⟩
      case measure=>simp [intOf];omega
    · go_roundw
      case rel=>
       have hbt:=fits_beside HE.out.symm
       rw [stay.out fun h=>by rw [hbt] at h;cases h.2] at hK
       exact ⟨n+1,by go_num,rfl,by omega,next.out (.inr (.inl hbt)),hK.sub (.cons _ (List.Sublist.refl _))⟩
      case measure=>simp [intOf];omega
    · go_roundw
      case rel=>
       have hbt:=fits_beside HSo.out.symm
       rw [stay.out fun h=>by rw [hbt] at h;cases h.2] at hK
       exact ⟨n+1,by go_num,rfl,by omega,next.out (.inr (.inl hbt)),hK.sub (.cons _ (List.Sublist.refl _))⟩
      case measure=>simp [intOf];omega
    · go_ret
      refine .inl ⟨fun h=>?_,rfl,hK.mod⟩
      have hb:=not_beside (hopen.out g1.out) HE.out.symm HSo.out.symm
      have hnb:x ∉ c.p.blocked:=fun hb=>g1.out (by rw [HK.out];exact kindL_open.2 hb)
      have hp:=(kindL_port hnb).1 (by rw [<-HK.out];exact g2)
      rw [h.beside x hp] at hb
      cases hb
    · go_roundw
      case rel=>
       have hb:=not_beside (hopen.out g1.out) HE.out.symm HSo.out.symm
       have E:(gridL A c.w (kind1 c.p n)).set n (-2)=gridL A c.w (kind1 c.p (n+1)):=by
        rw [gridL_set hw1 HA.out HI.out hxn.out]
        refine gridL_congr hw1 HA.out fun y hy=>?_
        rw [kind1_succ]
        by_cases e:y=x
        · subst e
          rw [if_pos rfl,if_pos ⟨hxn.out,HK.out.symm,hb⟩]
        · rw [if_neg e,if_neg]
          rintro ⟨g1,_⟩
          exact e (num_inj (c:=c.p) hy HI.out (g1.trans hxn.out.symm))
       rw [E] at hK
       exact ⟨n+1,by go_num,rfl,by omega,next.out (.inr (.inr (by trivial))),hK.sub (.cons _ (List.Sublist.refl _))⟩
      case measure=>simp [intOf];omega
  · obtain rfl:n=A:=by omega
    have s2:gridL n c.w (kind1 c.p n)=gridL n c.w (kind2 c.p (hTo c.robots.l 0)):=gridL_congr hw1 HA.out fun y hy=>kind1_last HA.out hy
    have s3:List.replicate n false=gridL n c.w (fun y=>decide (y∈hTo c.robots.l 0)):=(gridL_const (w:=c.w) false).trans (congrArg (gridL n c.w) (funext fun y=>by simp [hTo]))
    have hbes':Hid (∀ x∈c.p.ports,besideB c.p x=true):=fun x hx=>hbes.out x hx (by
     have hi:=hl.inside x (by simp [hx])
     have h1:=numOf_bd hi
     have h2:c.p.w*c.p.h=n:=HA.out
     unfold numOf at h1
     rw [h2] at h1
     exact h1.2)
    have S2:=Lib.hid s2
    have S3:=Lib.hid s3
    clear s2 s3 hbes
    go_wp2_with (first
     |((with_reducible refine wt 78 ?_)
       (refine wl_makeK (n:=n) false hK boolTy rfl rfl rfl rfl rfl (by omega) (by unfold maxLen;omega) ?_;clear hK;intro ads w78 hK))
     |go_big_skip
     |((with_reducible refine wl ?_);refine ld ?_)
     |(with_reducible refine en ?_))
    rw [S2.out,S3.out] at hK
    go_loopw [81,4] (fun i r wr=> ∃ k:Nat,i=.int .i64 k/\r=.bool false/\k<=c.robots.l.length/\Hid (∀ p∈c.robots.l.take k,fitsB c.p p=true)/\Hid (hTo c.robots.l k).Nodup/\Hid (∀ x∈hTo c.robots.l k,x ∉ c.p.ports)/\Know w wr S [rOw 4 elBool (.slice ads n n) (gridL n c.w (fun y=>decide (y∈hTo c.robots.l k))),rBlk b [.int .i64 c.w,.int .i64 c.h,.slice ad n cap] 148,rOw 3 elInt (.slice ad n cap) (gridL n c.w (kind2 c.p (hTo c.robots.l k)))] [rRd elPose c.robots.val c.robots.l,stepsR]) (fun i _ _=>c.robots.l.length - (intOf i).toNat)
    case atStart=>exact ⟨0,rfl,rfl,Nat.zero_le _,by show ∀ p∈_,_;simp,by show List.Nodup _;simp [hTo],by show ∀ x∈_,_;simp [hTo],hK⟩
    case round=>
     obtain ⟨k,rfl,rfl,hk,hFi,hNd,hCl,hK⟩:=hrel
     by_cases hlt:k<c.robots.l.length
     · obtain ⟨u,hu⟩: ∃ u,c.robots.l[k]?=some u:=⟨_,List.getElem?_eq_getElem hlt⟩
       have HU:=Lib.hid hu
       have HM:=Lib.hid (show u∈c.p.robots from List.mem_of_getElem? hu)
       have hpw:=hwf u (List.mem_of_getElem? hu)
       clear hu
       have kF:=Lib.hid (fun (W:World) h1 h2 h3=>hfit.out W (kind2 c.p (hTo c.robots.l k)) (fun y=>kind2_open fun z hz=>(openB_iff.1 (hTo_open hFi.out z hz)).2) (kind2_bd hl.ports8 _) u h1 h2 h3 hpw)
       obtain ⟨q,hq⟩: ∃ q,q=fitsB c.p u:=⟨_,rfl⟩
       rw [<-hq] at kF
       have HQ:=Lib.hid hq
       clear hq
       cases q
       · go_wp2_with (first
          |((with_reducible refine wt 83 ?_)
            (refine wl_ixK hK rfl rfl rfl rfl poseTy.und poseTy.size (h:=?_);intro b83 k83 hat83))
          |((with_reducible refine wl_at (o:=⟨some 9,.alloc _,_,_,_,_⟩) ?_)
            (refine wl_allocK (z:=.agg (poseZ).toArray) (zs:=poseZ) hK rfl rfl (by kernel_rfl) rfl ?_;clear hK;intro w9 b9 hK))
          |((with_reducible refine wl_at (o:=⟨none,.store 36 _ _,_,_,_,_⟩) ?_)
            (refine wl_storeWK (vs:=Pose.cells u) hK rfl rfl rfl rfl (aggS (by decide)) (elPose.one u) (h:=?_);clear hK;intro w' hK;simp only [z0,z1] at hK))
          |(go_at_call 106;(refine (hK.quiet (kF.out _ hK.blk hK.rd (hK.has (by simp)))).mono ?_;clear hK;rintro e w' ⟨rfl,hK⟩))
          |go_big_skip
          |((with_reducible refine wl ?_);refine ld ?_)
          |(with_reducible refine en ?_))
         go_ret
         exact .inl ⟨(fun h=>by have:=HQ.out.trans (h.fits u HM.out);cases this),rfl,hK.mod⟩
       · go_wp2_with (first
          |((with_reducible refine wt 83 ?_)
            (refine wl_ixK hK rfl rfl rfl rfl poseTy.und poseTy.size (h:=?_);intro b83 k83 hat83))
          |((with_reducible refine wl_at (o:=⟨some 9,.alloc _,_,_,_,_⟩) ?_)
            (refine wl_allocK (z:=.agg (poseZ).toArray) (zs:=poseZ) hK rfl rfl (by kernel_rfl) rfl ?_;clear hK;intro w9 b9 hK))
          |((with_reducible refine wl_at (o:=⟨none,.store 36 _ _,_,_,_,_⟩) ?_)
            (refine wl_storeWK (vs:=Pose.cells u) hK rfl rfl rfl rfl (aggS (by decide)) (elPose.one u) (h:=?_);clear hK;intro w' hK;simp only [z0,z1] at hK))
          |(go_at_call 106;(refine (hK.quiet (kF.out _ hK.blk hK.rd (hK.has (by simp)))).mono ?_;clear hK;rintro e w' ⟨rfl,hK⟩))
          |(go_at_call 107;(refine (gr_cells (p:=u) (hK.has (by simp)) hpw).mono ?_;rintro e w' ⟨ade,rfl,hT⟩;replace hK:=hK.push1 hT;clear hT))
          |go_big_skip
          |((with_reducible refine wl ?_);refine ld ?_)
          |(with_reducible refine en ?_))
         have hop:=Lib.hid (fits_open HQ.out.symm)
         go_loopw [93,4] (fun i r wr=> ∃ (m:Nat) (H:List Cell),i=.int .i64 m/\r=.bool false/\m<=2/\Hid (H=hTo c.robots.l k++u.both.take m)/\Hid H.Nodup/\Hid (∀ x∈H,x ∉ c.p.ports)/\Know w wr S [rOw 34 elCell (.slice ade 2 2) u.both,rOw 4 elBool (.slice ads n n) (gridL n c.w (fun y=>decide (y∈H))),rBlk b [.int .i64 c.w,.int .i64 c.h,.slice ad n cap] 148,rOw 3 elInt (.slice ad n cap) (gridL n c.w (kind2 c.p H))] [rRd elPose c.robots.val c.robots.l,stepsR]) (fun i _ _=>2 - (intOf i).toNat)
         case atStart=>exact ⟨0,hTo c.robots.l k,rfl,rfl,by omega,by show _=_;simp,hNd,hCl,hK.sub (.cons_cons _ (.cons _ (List.Sublist.refl _)))⟩
         case round=>
          obtain ⟨m,H,rfl,rfl,hm,hH,hNd2,hCl2,hK⟩:=hrel
          by_cases hlt2:m<2
          · obtain ⟨y,hy⟩: ∃ y,u.both[m]?=some y:=⟨_,List.getElem?_eq_getElem (by simp [Pose.both];omega)⟩
            have HY:=Lib.hid hy
            have hyo:=openB_iff.1 (hop.out y (List.mem_of_getElem? hy))
            have hH2:=Lib.hid (show H++[y]=hTo c.robots.l k++u.both.take (m+1) by rw [hH.out,List.take_add_one,hy];simp)
            have hsub:=Lib.hid (show (H++[y]).Sublist (homes c.p) by rw [hH2.out];exact hTo_sub HU.out (m+1))
            clear hy
            obtain ⟨hyi,hyb⟩:=hyo
            have hyn:=numOf_bd hyi
            obtain ⟨z,hz1⟩: ∃ z:Nat,y.y*c.w+y.x=(z:Int):=⟨(y.y*c.w+y.x).toNat,by have:numOf c.p y=y.y*c.w+y.x:=rfl;omega⟩
            have hzn:=num_lt HA.out hyi hz1
            have kN:=Lib.hid (fun (W:World) h1 h2=>hnum.out W (kind2 c.p H) (kind2_bd hl.ports8 _) y z hyi hz1 h1 h2)
            have HT:=Lib.hid (gridL_get (f:=fun y=>decide (y∈H)) HA.out hyi hz1)
            have HG:=Lib.hid (gridL_get (f:=kind2 c.p H) HA.out hyi hz1)
            have E1:=Lib.hid (show (gridL n c.w (fun y=>decide (y∈H))).set z true=gridL n c.w (fun x=>decide (x∈H++[y])) by
             rw [gridL_set hw1 HA.out hyi hz1]
             congr 1
             funext x
             by_cases e:x=y<;>simp [e])
            have E2:=Lib.hid (show (gridL n c.w (kind2 c.p H)).set z (-2)=gridL n c.w (kind2 c.p (H++[y])) by
             rw [gridL_set hw1 HA.out hyi hz1]
             congr 1
             funext x
             rw [kind2_snoc])
            have hl1:Hid (z<(gridL n c.w (fun y=>decide (y∈H))).length):=by show _<_;rw [gridL_len];exact hzn
            have hl2:Hid (z<(gridL n c.w (kind2 c.p H)).length):=by show _<_;rw [gridL_len];exact hzn
            have hz255:z<=256:=by omega
            have hpos:=Lib.hid (fun (h:y ∉ H)=>kind2_pos (c:=c.p) h hyb)
            have hkb:=kind2_bd hl.ports8 H y
            obtain ⟨t,ht⟩: ∃ t,t=decide (y∈H):=⟨_,rfl⟩
            obtain ⟨v,hv⟩: ∃ v,v=kind2 c.p H y:=⟨_,rfl⟩
            rw [<-ht] at HT
            rw [<-hv] at HG hkb
            have HTT:=Lib.hid ht
            have HV:=Lib.hid hv
            obtain ⟨hkb1,hkb2⟩:=hkb
            clear ht hv hyi hyb hyn hz1
            have hcs:t=true\/(t=false/\0<v)\/(t=false/\v<=0):=by cases t<;>simp;omega
            rcases hcs with rfl|⟨rfl,g2⟩|⟨rfl,g2⟩
            all_goals
             try (first|have d2:decide ((0:Int)<v)=true:=decide_eq_true g2|have d2:decide ((0:Int)<v)=false:=decide_eq_false (by omega))
             go_wp2_with (first
              |((with_reducible refine wt 95 ?_)
                (refine wl_ixK hK rfl rfl rfl rfl cellTy.und cellTy.size (h:=?_);intro b95 k95 hat95))
              |((with_reducible refine wl_at (o:=⟨some 11,.alloc _,_,_,_,_⟩) ?_)
                (refine wl_allocK (z:=.agg (cellZ).toArray) (zs:=cellZ) hK rfl rfl (by kernel_rfl) rfl ?_;clear hK;intro w11 b11 hK))
              |((with_reducible refine wl_at (o:=⟨none,.store 34 _ _,_,_,_,_⟩) ?_)
                (refine wl_storeWK (vs:=Cell.cells y) hK rfl rfl rfl rfl (aggS (by decide)) (elCell.one y) (h:=?_);clear hK;intro w' hK;simp only [z0,z1] at hK))
              |(go_at_call 62;(refine (hK.quiet (kN.out _ hK.blk hK.rd)).mono ?_;clear hK;rintro e w' ⟨rfl,hK⟩))
              |((with_reducible refine wt 102 ?_)
                (refine wl_ixK hK rfl rfl rfl rfl boolTy.und boolTy.size (h:=?_);intro b102 k102 hat102))
              |go_big_skip
              |((with_reducible refine wt 110 ?_)
                (refine wl_ixK hK rfl rfl rfl rfl intTy.und intTy.size (h:=?_);intro b110 k110 hat110))
              |((with_reducible refine wt 116 ?_);(refine wl_ixO hK rfl rfl rfl rfl boolTy.und boolTy.size (h:=?_);intro b116 k116 hat116 hsp116))
              |((with_reducible refine wl_at (o:=⟨none,.store 4 _ _,_,_,_,_⟩) ?_);(refine wl_storeE true hK rfl rfl rfl rfl (sizT (by decide)) hsp116 (hlt:=hl1.out) (h:=?_);clear hK;intro w' hK;simp only [z0,z1] at hK;rw [E1.out] at hK))
              |((with_reducible refine wt 122 ?_);(refine wl_ixO hK rfl rfl rfl rfl intTy.und intTy.size (h:=?_);intro b122 k122 hat122 hsp122))
              |((with_reducible refine wl_at (o:=⟨none,.store 3 _ _,_,_,_,_⟩) ?_);(refine wl_storeE (-2) hK rfl rfl rfl rfl (sizT (by decide)) hsp122 (hlt:=hl2.out) (h:=?_);clear hK;intro w' hK;simp only [z0,z1] at hK;rw [E2.out] at hK))
              |go_big_skip
              |((with_reducible refine wl ?_);refine ld ?_)
              |(with_reducible refine en ?_))
            · go_ret
              refine .inl ⟨fun h=>?_,rfl,hK.mod⟩
              have hd:=h.homes1.sublist hsub.out
              rw [List.nodup_append] at hd
              exact hd.2.2 y (of_decide_eq_true HTT.out.symm) y (by simp) rfl
            · go_ret
              refine .inl ⟨fun h=>?_,rfl,hK.mod⟩
              exact h.clear y (hsub.out.subset (by simp)) ((hpos.out (of_decide_eq_false HTT.out.symm)).1 (by rw [<-HV.out];exact g2))
            · go_roundw
              case rel=>
               refine ⟨m+1,H++[y],by go_num,rfl,by omega,hH2,nodup_snoc hNd2.out (of_decide_eq_false HTT.out.symm),?_,hK.sub (.cons _ (List.Sublist.refl _))⟩
               intro x hx
               rw [List.mem_append,List.mem_singleton] at hx
               rcases hx with hx|rfl
               · exact hCl2.out x hx
               · intro hp
                 have:=(hpos.out (of_decide_eq_false HTT.out.symm)).2 hp
                 rw [<-HV.out] at this
                 omega
              case measure=>simp [intOf];omega
          · obtain rfl:m=2:=by omega
            have hHe:H=hTo c.robots.l (k+1):=by rw [hH.out,hTo_succ HU.out];rfl
            go_wp2_with (first
             |go_big_skip
             |((with_reducible refine wl ?_);refine ld ?_)
             |(with_reducible refine en ?_))
            go_roundw
            case rel=>
             rw [hHe] at hK hNd2 hCl2
             exact ⟨k+1,by go_num,rfl,by omega,upto_snoc (show c.robots.l.take (k+1)=_ by rw [List.take_add_one,HU.out];rfl) hFi.out HQ.out.symm,hNd2,hCl2,hK.sub (.cons _ (List.Sublist.refl _))⟩
            case measure=>simp [intOf];omega
     · obtain rfl:k=c.robots.l.length:=by omega
       go_wp2_with (first
        |go_big_skip
        |((with_reducible refine wl ?_);refine ld ?_)
        |(with_reducible refine en ?_))
       go_ret
       have e:hTo c.robots.l c.robots.l.length=homes c.p:=by
        unfold hTo homes
        rw [List.take_length]
        rfl
       have hfi:=hFi.out
       rw [List.take_length] at hfi
       refine .inr ⟨⟨h8',hbes'.out,hfi,by rw [<-e];exact hNd.out,by rw [<-e];exact hCl.out⟩,rfl,?_⟩
       rw [e] at hK
       exact (hK.sub (.cons _ (List.Sublist.refl _))).turns
end Go.Proofs.YtngeeilkpnihmaaGreatDoor
namespace Go.Proofs.YtngeeilkpnihmaaGreatDoor
open Go Go.Sk Go.RowKit
set_option maxRecDepth 100000
theorem zeroInt (w:World):(zeroValue 3).run Tryz.prog w=.ok (.int .i64 0) w:=by kernel_rfl
def stackZ:List Value:=[.int .i64 0,.int .i64 0,.slice none 0 0]
theorem mkG_stacked {c:ConfP} {b A cap:Nat} {ad:Option Addr} (hA:c.w*c.h=A) (x:Cell):stackedG (mkG c b A cap ad (kind2 c (homes c))) x=stackedB c x:=by
 rw [Bool.eq_iff_iff,stackedB_iff]
 unfold stackedG
 rw [Bool.and_eq_true,mkG_in,decide_eq_true_eq]
 constructor
 · rintro ⟨h1,h2⟩
   rw [mkG_kd hA h1] at h2
   exact ⟨h1,h2⟩
 · rintro ⟨h1,h2⟩
   refine ⟨h1,?_⟩
   rw [mkG_kd hA h1]
   exact h2
theorem binsTo_sub {c:ConfV} {j:Nat} {u:StackV} (h:c.stacks.l[j]?=some u) (i:Nat):(binsTo c j++u.bins.l.take i).Sublist (allBins c.p):=by
 have h1:(binsTo c j++u.bins.l.take i).Sublist (binsTo c (j+1)):=by
  rw [binsTo_succ h]
  exact List.Sublist.append_left (List.take_sublist _ _) _
 refine h1.trans ?_
 rw [<-binsTo_all]
 have e:binsTo c c.stacks.l.length=binsTo c (j+1)++(c.stacks.l.drop (j+1)).flatMap fun s=>s.bins.l:=by
  unfold binsTo
  rw [<-List.flatMap_append,List.take_length,List.take_append_drop]
 rw [e]
 exact List.sublist_append_left _ _
set_option maxHeartbeats 8000000 in
theorem gstacks_calls {c:ConfV} {b A cap:Nat} {ad:Option Addr} {w:World} (ha:GridAt w (mkG c.p b A cap ad (kind2 c.p (homes c.p)))) (hs:Has w (rStacks c.stacks)) (hA:c.w*c.h=A) (hl:LaidP c.p) (hn:Nums c.p) (hz:Sized c):
 Calls Tryz.prog 86 #[.pointer (some ⟨b,0,none⟩),c.stacks.val,.int .i64 c.height] w (Ret (.bool (binsB c.p)) w):=by
 have hK:Know w w none' [] [rStacks c.stacks,rBlk b [.int .i64 c.w,.int .i64 c.h,.slice ad A cap] 148,rRd elInt (.slice ad A cap) (gridL A c.w (kind2 c.p (homes c.p)))]:=Know.start w (by
  intro r hr
  simp only [List.mem_cons,List.not_mem_nil,or_false] at hr
  rcases hr with rfl|rfl|rfl
  · exact hs
  · exact ⟨_,rBlk_p.2 ⟨ha.blk,rfl⟩⟩
  · exact ha.rd.has)
 replace hK:Know w w none' [] [rRd elStack c.stacks.val c.stacks.l,rStacks c.stacks,rBlk b [.int .i64 c.w,.int .i64 c.h,.slice ad A cap] 148,rRd elInt (.slice ad A cap) (gridL A c.w (kind2 c.p (homes c.p)))]:=
  hK.part List.mem_cons_self fun w S h=>rTwo_left w S h
 have HA:=Lib.hid hA
 have hok:GridOk (mkG c.p b A cap ad (kind2 c.p (homes c.p))):=mkG_ok hl hA (kind2_bd hl.ports8 _)
 obtain ⟨hw1,hw2⟩:=hn.w
 obtain ⟨hh1,hh2⟩:=hn.h
 obtain ⟨hH1,hH2⟩:=hn.height
 have ew:c.p.w=c.w:=rfl
 have eh:c.p.h=c.h:=rfl
 have eH:c.p.height=c.height:=rfl
 rw [ew] at hw1 hw2
 rw [eh] at hh1 hh2
 rw [eH] at hH1 hH2
 have hA2:c.w*c.h<=16*16:=Int.mul_le_mul hw2 hh2 (by omega) (by omega)
 have hA256:A<=256:=by omega
 clear hA hA2 ew eh eH
 have hwi:=Lib.hid gr_within
 have hstk:=Lib.hid (fun (W:World) (x:Cell) (h1:Blk W b [.int .i64 c.w,.int .i64 c.h,.slice ad A cap] 148) (h2:Rd W elInt (.slice ad A cap) (gridL A c.w (kind2 c.p (homes c.p))))=>
  show Calls Tryz.prog 94 #[.pointer (some ⟨b,0,none⟩),.agg x.cells.toArray] W (Ret (.bool (stackedB c.p x)) W) by
   have:=gr_stacked (g:=mkG c.p b A cap ad (kind2 c.p (homes c.p))) (x:=x) ⟨h1,h2⟩ hok
   rw [mkG_stacked HA.out] at this
   exact this)
 have hnum:=Lib.hid (fun (W:World) (x:Cell) (m:Nat) (hi:inB c.p x=true) (hm:x.y*c.w+x.x=m) (h1:Blk W b [.int .i64 c.w,.int .i64 c.h,.slice ad A cap] 148) (h2:Rd W elInt (.slice ad A cap) (gridL A c.w (kind2 c.p (homes c.p))))=>
  show Calls Tryz.prog 62 #[.pointer (some ⟨b,0,none⟩),.agg x.cells.toArray] W (Ret (.int .i64 (m:Int)) W) by
   have:=gr_number (g:=mkG c.p b A cap ad (kind2 c.p (homes c.p))) (x:=x) ⟨h1,h2⟩ hok
   rw [mkG_num hi,show x.y*c.p.w+x.x=m from hm] at this
   exact this)
 have hb:=hz.stacks
 go_enter Tryz.func86,Tryz.ntmps86
 go_wp2_with (first
  |((with_reducible refine wt 18 ?_)
    (refine wl_makeK (n:=A) false hK boolTy rfl rfl rfl rfl rfl (by omega) (by unfold maxLen;omega) ?_;clear hK;intro ads w18 hK))
  |((with_reducible refine wt 19 ?_)
    (refine wl_makeMapK 3 3 hK rfl rfl ?_;clear hK;intro w19 bm hK))
  |go_big_skip
  |((with_reducible refine wl ?_);refine ld ?_)
  |(with_reducible refine en ?_))
 have s3:List.replicate A false=gridL A c.w (fun y=>decide (y∈(c.stacks.l.take 0).map (·.at_))):=(gridL_const (w:=c.w) false).trans (congrArg (gridL A c.w) (funext fun y=>by simp))
 rw [s3] at hK
 clear s3
 go_loopw [22,6] (fun i r wr=> ∃ j:Nat,i=.int .i64 j/\r=.bool false/\j<=c.stacks.l.length/\Hid (StkTo c j)/\Hid (∀ b∈binsTo c j,Go.Sk.within b 1 1000000000=true)/\Hid (binsTo c j).Nodup/\Hid ((binsTo c j).length<=512)/\Know w wr none' [rSet Tryz.prog 3 3 bm (binsTo c j),rOw 4 elBool (.slice ads A A) (gridL A c.w (fun y=>decide (y∈(c.stacks.l.take j).map (·.at_))))] [rRd elStack c.stacks.val c.stacks.l,rStacks c.stacks,rBlk b [.int .i64 c.w,.int .i64 c.h,.slice ad A cap] 148,rRd elInt (.slice ad A cap) (gridL A c.w (kind2 c.p (homes c.p)))]) (fun i _ _=>c.stacks.l.length - (intOf i).toNat)
 case atStart=>exact ⟨0,rfl,rfl,Nat.zero_le _,⟨by simp,by simp⟩,by show ∀ b∈_,_;simp [binsTo],by show List.Nodup _;simp [binsTo],by show _<=_;simp [binsTo],hK⟩
 case round=>
  obtain ⟨j,rfl,rfl,hj,hS,hB,hNd,hC,hK⟩:=hrel
  have hj256:=hS.out.le hn hj
  by_cases hlt:j<c.stacks.l.length
  · obtain ⟨u,hu⟩: ∃ u,c.stacks.l[j]?=some u:=⟨_,List.getElem?_eq_getElem hlt⟩
    have HU:=Lib.hid hu
    have hub:=hz.bins u (List.mem_of_getElem? hu)
    have HM:=Lib.hid (List.mem_of_getElem? hu)
    clear hu
    have kS:=Lib.hid (fun (W:World) h1 h2=>hstk.out W u.at_ h1 h2)
    obtain ⟨q,hq⟩: ∃ q,q=stackedB c.p u.at_:=⟨_,rfl⟩
    rw [<-hq] at kS
    have HQ:=Lib.hid hq
    clear hq
    cases q
    · go_wp2_with (first
       |((with_reducible refine wt 24 ?_)
         (refine wl_ixK hK rfl rfl rfl rfl stackTy.und stackTy.size (h:=?_);intro b24 k24 hat24))
       |((with_reducible refine wl_at (o:=⟨some 10,.alloc _,_,_,_,_⟩) ?_)
         (refine wl_allocK (z:=.agg (stackZ).toArray) (zs:=stackZ) hK rfl rfl (by kernel_rfl) rfl ?_;clear hK;intro w10 b10 hK))
       |((with_reducible refine wl_at (o:=⟨none,.store 85 _ _,_,_,_,_⟩) ?_)
         (refine wl_storeWK (vs:=StackV.cells u) hK rfl rfl rfl rfl (aggS (by decide)) (elStack.one u) (h:=?_);clear hK;intro w' hK;simp only [z0,z1] at hK))
       |(go_at_call 94;(refine (hK.quiet (kS.out _ hK.blk hK.rd)).mono ?_;clear hK;rintro e w' ⟨rfl,hK⟩))
       |((with_reducible refine wt 28 ?_)
         (refine wl_loadS rfl rfl rfl (aggT (by decide)) rfl (hK.blk.at (ds:=Cell.cells u.at_) (o:=0) (fun j v h=>by rw [Nat.zero_add];rcases j with _|_|j<;>first|exact h|(simp [Cell.cells] at h))) ?_))
       |go_big_skip
       |((with_reducible refine wl ?_);refine ld ?_)
       |(with_reducible refine en ?_))
      go_ret
      exact ⟨by rw [not_bins_stack HU.out (.inl HQ.out.symm)];rfl,hK.mod⟩
    · have hi:=(stackedB_iff.1 HQ.out.symm).1
      have h1:=numOf_bd hi
      obtain ⟨m,hm⟩: ∃ m:Nat,u.at_.y*c.w+u.at_.x=(m:Int):=⟨(u.at_.y*c.w+u.at_.x).toNat,by have:numOf c.p u.at_=u.at_.y*c.w+u.at_.x:=rfl;omega⟩
      have hmA:=num_lt HA.out hi hm
      have kN:=Lib.hid (fun (W:World) h1 h2=>hnum.out W u.at_ m hi hm h1 h2)
      have HT:=Lib.hid (gridL_get (f:=fun y=>decide (y∈(c.stacks.l.take j).map (·.at_))) HA.out hi hm)
      have E1:=Lib.hid (show (gridL A c.w (fun y=>decide (y∈(c.stacks.l.take j).map (·.at_)))).set m true=gridL A c.w (fun y=>decide (y∈(c.stacks.l.take (j+1)).map (·.at_))) by
       rw [gridL_set hw1 HA.out hi hm,List.take_add_one,HU.out]
       congr 1
       funext x
       by_cases e:x=u.at_<;>simp [e])
      have hl1:Hid (m<(gridL A c.w (fun y=>decide (y∈(c.stacks.l.take j).map (·.at_)))).length):=by show _<_;rw [gridL_len];exact hmA
      obtain ⟨t,ht⟩: ∃ t,t=decide (u.at_∈(c.stacks.l.take j).map (·.at_)):=⟨_,rfl⟩
      rw [<-ht] at HT
      have HTT:=Lib.hid ht
      clear ht hi h1 hm
      have hcs:t=true\/(t=false/\c.height<(u.bins.l.length:Int))\/(t=false/\(u.bins.l.length:Int)<=c.height):=by
       cases t
       · by_cases h:c.height<(u.bins.l.length:Int)
         · exact .inr (.inl ⟨rfl,h⟩)
         · exact .inr (.inr ⟨rfl,by omega⟩)
       · exact .inl rfl
      rcases hcs with rfl|⟨rfl,g1⟩|⟨rfl,g1⟩
      all_goals
       go_wp2_with (first
        |((with_reducible refine wt 24 ?_)
          (refine wl_ixK hK rfl rfl rfl rfl stackTy.und stackTy.size (h:=?_);intro b24 k24 hat24))
        |((with_reducible refine wl_at (o:=⟨some 10,.alloc _,_,_,_,_⟩) ?_)
          (refine wl_allocK (z:=.agg (stackZ).toArray) (zs:=stackZ) hK rfl rfl (by kernel_rfl) rfl ?_;clear hK;intro w10 b10 hK))
        |((with_reducible refine wl_at (o:=⟨none,.store 85 _ _,_,_,_,_⟩) ?_)
          (refine wl_storeWK (vs:=StackV.cells u) hK rfl rfl rfl rfl (aggS (by decide)) (elStack.one u) (h:=?_);clear hK;intro w' hK;simp only [z0,z1] at hK))
        |(go_at_call 94;(refine (hK.quiet (kS.out _ hK.blk hK.rd)).mono ?_;clear hK;rintro e w' ⟨rfl,hK⟩))
        |(go_at_call 62;(refine (hK.quiet (kN.out _ hK.blk hK.rd)).mono ?_;clear hK;rintro e w' ⟨rfl,hK⟩))
        |go_big_skip
        |((with_reducible refine wt 28 ?_)
          (refine wl_loadS rfl rfl rfl (aggT (by decide)) rfl (hK.blk.at (ds:=Cell.cells u.at_) (o:=0) (fun j v h=>by rw [Nat.zero_add];rcases j with _|_|j<;>first|exact h|(simp [Cell.cells] at h))) ?_))
        |((with_reducible refine wt 35 ?_)
          (refine wl_loadS rfl rfl rfl (aggT (by decide)) rfl (hK.blk.at (ds:=Cell.cells u.at_) (o:=0) (fun j v h=>by rw [Nat.zero_add];rcases j with _|_|j<;>first|exact h|(simp [Cell.cells] at h))) ?_))
        |((with_reducible refine wt 50 ?_)
          (refine wl_loadS rfl rfl rfl (aggT (by decide)) rfl (hK.blk.at (ds:=Cell.cells u.at_) (o:=0) (fun j v h=>by rw [Nat.zero_add];rcases j with _|_|j<;>first|exact h|(simp [Cell.cells] at h))) ?_))
        |((with_reducible refine wt 37 ?_)
          (refine wl_ixK hK rfl rfl rfl rfl boolTy.und boolTy.size (h:=?_);intro b37 k37 hat37))
        |((with_reducible refine wt 52 ?_);(refine wl_ixO hK rfl rfl rfl rfl boolTy.und boolTy.size (h:=?_);intro b52 k52 hat52 hsp52))
        |((with_reducible refine wl_at (o:=⟨none,.store 4 _ _,_,_,_,_⟩) ?_);(refine wl_storeE true hK rfl rfl rfl rfl (sizT (by decide)) hsp52 (hlt:=hl1.out) (h:=?_);clear hK;intro w' hK;simp only [z0,z1] at hK;rw [E1.out] at hK))
        |go_big_skip
        |((with_reducible refine wl ?_);refine ld ?_)
        |(with_reducible refine en ?_))
      · go_ret
        have e:binsB c.p=false:=by
         obtain ⟨s,hs,he⟩:=List.mem_map.1 (of_decide_eq_true HTT.out.symm)
         obtain ⟨i,hi⟩:=List.getElem?_of_mem hs
         rw [List.getElem?_take] at hi
         split at hi
         · exact not_bins_twice hi HU.out (by assumption) he
         · cases hi
        exact ⟨by rw [e];rfl,hK.mod⟩
      · go_ret
        exact ⟨by rw [not_bins_stack HU.out (.inr g1)];rfl,hK.mod⟩
      · replace hK:=hK.binsOf (by simp) HM.out
        have hbl0:u.bins.l.length<=8:=by omega
        have hcat:Hid (∀ i,(binsTo c j++u.bins.l.take i).Sublist (allBins c.p)):=fun i=>binsTo_sub HU.out i
        go_loopw [56,6] (fun i r wr=> ∃ (i0:Nat) (l:List Int),i=.int .i64 i0/\r=.bool false/\i0<=u.bins.l.length/\Hid (l=binsTo c j++u.bins.l.take i0)/\Hid (∀ b∈l,Go.Sk.within b 1 1000000000=true)/\Hid l.Nodup/\l.length<=512/\Know w wr none' [rBlk b10 (StackV.cells u) 85,rSet Tryz.prog 3 3 bm l,rOw 4 elBool (.slice ads A A) (gridL A c.w (fun y=>decide (y∈(c.stacks.l.take (j+1)).map (·.at_))))] [rRd elInt u.bins.val u.bins.l,rRd elStack c.stacks.val c.stacks.l,rStacks c.stacks,rBlk b [.int .i64 c.w,.int .i64 c.h,.slice ad A cap] 148,rRd elInt (.slice ad A cap) (gridL A c.w (kind2 c.p (homes c.p)))]) (fun i _ _=>u.bins.l.length - (intOf i).toNat)
        case atStart=>exact ⟨0,binsTo c j,rfl,rfl,Nat.zero_le _,by show _=_;simp,hB,hNd,hC.out,hK⟩
        case round=>
         obtain ⟨i,l,rfl,rfl,hi,hL,hB2,hNd2,hC2,hK⟩:=hrel
         by_cases hlt2:i<u.bins.l.length
         · obtain ⟨v,hv⟩: ∃ v,u.bins.l[i]?=some v:=⟨_,List.getElem?_eq_getElem hlt2⟩
           have HV:=Lib.hid hv
           have hL2:=Lib.hid (show l++[v]=binsTo c j++u.bins.l.take (i+1) by rw [hL.out,List.take_add_one,hv];simp)
           have hsub:=Lib.hid (show (l++[v]).Sublist (allBins c.p) by rw [hL2.out];exact hcat.out (i+1))
           clear hv
           have kW:=Lib.hid (hwi.out v 1 1000000000)
           obtain ⟨q,hq⟩: ∃ q,q=Go.Sk.within v 1 1000000000:=⟨_,rfl⟩
           rw [<-hq] at kW
           have HW:=Lib.hid hq
           clear hq
           have hmem:Hid (binsB c.p=true->Go.Sk.within v 1 1000000000=true/\(l++[v]).Nodup/\l.length+1<=512):=fun h=>by
            have hb:=binsB_true.1 h
            refine ⟨hb.bins v (hsub.out.subset (by simp)),hb.bins1.sublist hsub.out,?_⟩
            have h1:=hsub.out.length_le
            have h2:=hb.bins512
            simp at h1
            omega
           have hcs:q=false\/(q=true/\v∈l)\/(q=true/\ ¬ v∈l/\l.length=512)\/(q=true/\ ¬ v∈l/\l.length<512):=by
            cases q
            · exact .inl rfl
            · by_cases h:v∈l
              · exact .inr (.inl ⟨rfl,h⟩)
              · by_cases h2:l.length=512
                · exact .inr (.inr (.inl ⟨rfl,h,h2⟩))
                · exact .inr (.inr (.inr ⟨rfl,h,by omega⟩))
           rcases hcs with rfl|⟨rfl,g2⟩|⟨rfl,g2,g3⟩|⟨rfl,g2,g3⟩
           · go_wp2_with (first
              |((with_reducible refine wt 58 ?_)
                (refine wl_ixK hK rfl rfl rfl rfl intTy.und intTy.size (h:=?_);intro b58 k58 hat58))
              |(go_at_call 83;(refine (hK.quiet (kW.out _)).mono ?_;clear hK;rintro e w' ⟨rfl,hK⟩))
              |go_big_skip
              |((with_reducible refine wl ?_);refine ld ?_)
              |(with_reducible refine en ?_))
             go_ret
             have e:binsB c.p=false:=by
              rw [Bool.eq_false_iff]
              intro h
              have:=HW.out.trans (hmem.out h).1
              cases this
             exact ⟨by rw [e];rfl,hK.mod⟩
           · have hvb:=Go.Sk.within_iff.1 HW.out.symm
             obtain ⟨hv1,hv2⟩:=hvb
             have G2:=Lib.hid g2
             clear g2
             go_wp2_with (first
              |((with_reducible refine wt 58 ?_)
                (refine wl_ixK hK rfl rfl rfl rfl intTy.und intTy.size (h:=?_);intro b58 k58 hat58))
              |(go_at_call 83;(refine (hK.quiet (kW.out _)).mono ?_;clear hK;rintro e w' ⟨rfl,hK⟩))
              |go_big_skip
              |((with_reducible refine wt 66 ?_);(refine wl_lookupK (l:=l) 1 hK rfl rfl rfl rfl Tryz.underlying181 Tryz.underlying3 Tryz.underlying3 zeroInt ⟨by omega,by omega⟩ (hr:=if_pos G2.out) (h:=?_)))
              |go_big_skip
              |((with_reducible refine wl ?_);refine ld ?_)
              |(with_reducible refine en ?_))
             go_ret
             have e:binsB c.p=false:=by
              rw [Bool.eq_false_iff]
              intro h
              have:=(hmem.out h).2.1
              rw [List.nodup_append] at this
              exact this.2.2 v G2.out v (by simp) rfl
             exact ⟨by rw [e];rfl,hK.mod⟩
           · have hvb:=Go.Sk.within_iff.1 HW.out.symm
             obtain ⟨hv1,hv2⟩:=hvb
             have G2:=Lib.hid g2
             clear g2
             have d3:(((l.length:Nat):Int) == 512)=true:=beq_iff_eq.2 (by omega)
             have G3:=Lib.hid g3
             clear g3
             go_wp2_with (first
              |((with_reducible refine wt 58 ?_)
                (refine wl_ixK hK rfl rfl rfl rfl intTy.und intTy.size (h:=?_);intro b58 k58 hat58))
              |(go_at_call 83;(refine (hK.quiet (kW.out _)).mono ?_;clear hK;rintro e w' ⟨rfl,hK⟩))
              |go_big_skip
              |((with_reducible refine wt 66 ?_);(refine wl_lookupK (l:=l) 0 hK rfl rfl rfl rfl Tryz.underlying181 Tryz.underlying3 Tryz.underlying3 zeroInt ⟨by omega,by omega⟩ (hr:=if_neg G2.out) (h:=?_)))
              |((with_reducible refine wt 71 ?_);(refine wl_lenMapK (l:=l) hK rfl rfl rfl Tryz.underlying181 (h:=?_)))
              |go_big_skip
              |((with_reducible refine wl ?_);refine ld ?_)
              |(with_reducible refine en ?_))
             go_ret
             have e:binsB c.p=false:=by
              rw [Bool.eq_false_iff]
              intro h
              have:=(hmem.out h).2.2
              have:=G3.out
              omega
             exact ⟨by rw [e];rfl,hK.mod⟩
           · have hvb:=Go.Sk.within_iff.1 HW.out.symm
             obtain ⟨hv1,hv2⟩:=hvb
             have G2:=Lib.hid g2
             clear g2
             have d3:(((l.length:Nat):Int) == 512)=false:=beq_eq_false_iff_ne.2 (by omega)
             go_wp2_with (first
              |((with_reducible refine wt 58 ?_)
                (refine wl_ixK hK rfl rfl rfl rfl intTy.und intTy.size (h:=?_);intro b58 k58 hat58))
              |(go_at_call 83;(refine (hK.quiet (kW.out _)).mono ?_;clear hK;rintro e w' ⟨rfl,hK⟩))
              |go_big_skip
              |((with_reducible refine wt 66 ?_);(refine wl_lookupK (l:=l) 0 hK rfl rfl rfl rfl Tryz.underlying181 Tryz.underlying3 Tryz.underlying3 zeroInt ⟨by omega,by omega⟩ (hr:=if_neg G2.out) (h:=?_)))
              |((with_reducible refine wt 71 ?_);(refine wl_lenMapK (l:=l) hK rfl rfl rfl Tryz.underlying181 (h:=?_)))
              |((with_reducible refine wl_at (o:=⟨none,.mapUpdate _ _ _ _,_,_,_,_⟩) ?_);(refine wl_mapSetK (l:=l) hK rfl rfl rfl rfl rfl Tryz.underlying181 Tryz.underlying3 Tryz.underlying3 ⟨by omega,by omega⟩ (by unfold maxLen;omega) G2.out (h:=?_);clear hK;intro w' hK;simp only [z0,z1] at hK))
              |go_big_skip
              |((with_reducible refine wl ?_);refine ld ?_)
              |(with_reducible refine en ?_))
             go_roundw
             case rel=>
              refine ⟨i+1,l++[v],by go_num,rfl,by omega,hL2,?_,nodup_snoc hNd2.out G2.out,by rw [List.length_append];simp;omega,hK⟩
              intro x hx
              rw [List.mem_append,List.mem_singleton] at hx
              rcases hx with hx|rfl
              · exact hB2.out x hx
              · exact HW.out.symm
             case measure=>simp [intOf];omega
         · obtain rfl:i=u.bins.l.length:=by omega
           have hle:l=binsTo c (j+1):=by rw [hL.out,List.take_length,binsTo_succ HU.out]
           have HLE:=Lib.hid hle
           clear hle
           have hS2:Hid (StkTo c (j+1)):=hS.out.succ HU.out HQ.out.symm g1 fun s hs e=>(of_decide_eq_false HTT.out.symm) (List.mem_map.2 ⟨s,hs,e⟩)
           go_wp2_with (first
            |go_big_skip
            |((with_reducible refine wl ?_);refine ld ?_)
            |(with_reducible refine en ?_))
           go_roundw
           case rel=>
            rw [HLE.out] at hK hB2 hNd2 hC2
            exact ⟨j+1,by go_num,rfl,by omega,hS2,hB2,hNd2,hC2,(hK.sub (.cons _ (List.Sublist.refl _))).subL (by intro r hr;exact List.mem_cons_of_mem _ hr)⟩
           case measure=>simp [intOf];omega
  · obtain rfl:j=c.stacks.l.length:=by omega
    go_wp2_with (first
     |go_big_skip
     |((with_reducible refine wl ?_);refine ld ?_)
     |(with_reducible refine en ?_))
    go_ret
    have e:binsB c.p=true:=by
     have hs:=hS.out
     refine binsB_true.2 ⟨?_,?_,?_,?_,?_⟩
     · intro s hs'
       obtain ⟨t,ht,rfl⟩:=List.mem_map.1 hs'
       exact hs.ok t (by rw [List.take_length];exact ht)
     · have:=hs.apart
       rw [List.take_length] at this
       rw [show c.p.stacks.map (·.at_)=c.stacks.l.map (·.at_) by simp only [ConfV.p,List.map_map];rfl]
       exact this
     · rw [<-binsTo_all];exact hB.out
     · rw [<-binsTo_all];exact hNd.out
     · rw [<-binsTo_all];exact hC.out
    exact ⟨by rw [e];rfl,hK.mod⟩
end Go.Proofs.YtngeeilkpnihmaaGreatDoor
namespace Go.Proofs.YtngeeilkpnihmaaGreatDoor
open Go Go.Sk Go.RowKit
set_option maxRecDepth 100000
def MadePost (c:ConfP) (w:World) (e:Ending) (w':World):Prop:=
 (¬ MayP c/\e=.returned (.pointer none)/\Mod none' w w')\/(MayP c/\ ∃ b cap ad,e=.returned (.pointer (some ⟨b,0,none⟩))/\Turns (rGrid (mkG c b (c.w*c.h).toNat cap ad (kind2 c (homes c)))) w w' none')
def sixOf (c:ConfV):List Int:=[c.unit,c.accel,c.speed,c.turn,c.hoist,c.resend]
theorem six_iff {c:ConfV}:numsB c.p=true ↔ (∀ x∈sixOf c,Go.Sk.within x 1 1000=true)/\Go.Sk.within c.w 1 16=true/\Go.Sk.within c.h 1 16=true/\Go.Sk.within c.height 1 8=true/\Go.Sk.within c.queue 1 16=true/\Go.Sk.within c.budget 1 1048576=true:=by
 unfold numsB sixOf
 simp only [Bool.and_eq_true,List.mem_cons,List.not_mem_nil,or_false,forall_eq_or_imp,forall_eq,ConfV.p]
 constructor
 · rintro ⟨⟨⟨⟨⟨⟨⟨⟨⟨⟨h1,h2⟩,h3⟩,h4⟩,h5⟩,h6⟩,h7⟩,h8⟩,h9⟩,h10⟩,h11⟩
   exact ⟨⟨h4,h5,h6,h7,h8,h9⟩,h1,h2,h3,h10,h11⟩
 · rintro ⟨⟨h4,h5,h6,h7,h8,h9⟩,h1,h2,h3,h10,h11⟩
   exact ⟨⟨⟨⟨⟨⟨⟨⟨⟨⟨h1,h2⟩,h3⟩,h4⟩,h5⟩,h6⟩,h7⟩,h8⟩,h9⟩,h10⟩,h11⟩
set_option maxHeartbeats 8000000 in
theorem made_calls {c:ConfV} {w:World} (hc:Has w (rConf c)) (hst:Has w stepsR) (hz:Sized c) (hwf: ∀ p∈c.robots.l,PoseWf p):Calls Tryz.prog 60 #[.agg c.cells.toArray] w (MadePost c.p w):=by
 have hK:=((Know.start (L:=[rConf c,stepsR]) w (by intro r hr;simp only [List.mem_cons,List.not_mem_nil,or_false] at hr;rcases hr with rfl|rfl;exact hc;exact hst)).conf (c:=c) (by simp)).subL (L':=[rRd elPose c.robots.val c.robots.l,rStacks c.stacks,rConf c,stepsR]) (by simp)
 have hwi:=Lib.hid gr_within
 have hno:Hid (∀ x,numsB c.p=false-> ¬ (MayP c.p/\x=())):=fun _ h hm=>by have:=hm.1.nums;rw [h] at this;cases this
 go_enter Tryz.func60,Tryz.ntmps60
 go_wp2_with (first
  |((with_reducible refine wb 1 ?_)
    (refine wl_boxK hK rfl rfl rfl rfl ?_;clear hK;intro w1 b1 hK))
  |((with_reducible refine wt 19 ?_)
    (refine wl_buildK 3 elInt (sixOf c) hK rfl rfl (fun W=>by kernel_rfl) rfl (by decide) ?_;clear hK;intro ad6 w19 hK))
  |go_big_skip
  |((with_reducible refine wl ?_);refine ld ?_)
  |(with_reducible refine en ?_))
 go_loopw [21,2] (fun i r wr=> ∃ j:Nat,i=.int .i64 j/\r=.pointer none/\j<=6/\Hid (∀ x∈(sixOf c).take j,Go.Sk.within x 1 1000=true)/\Know w wr none' [rOw 3 elInt (.slice ad6 6 6) (sixOf c),rBlk b1 c.cells 26] [rRd elPose c.robots.val c.robots.l,rStacks c.stacks,rConf c,stepsR]) (fun i _ _=>6 - (intOf i).toNat)
 case atStart=>exact ⟨0,rfl,rfl,by omega,by show ∀ x∈_,_;simp,hK⟩
 case round=>
  obtain ⟨j,rfl,rfl,hj,hW,hK⟩:=hrel
  by_cases hlt:j<6
  · obtain ⟨u,hu⟩: ∃ u,(sixOf c)[j]?=some u:=⟨_,List.getElem?_eq_getElem (by simp [sixOf];omega)⟩
    have HU:=Lib.hid hu
    clear hu
    have k1:=Lib.hid (hwi.out u 1 1000)
    obtain ⟨q,hq⟩: ∃ q,q=Go.Sk.within u 1 1000:=⟨_,rfl⟩
    rw [<-hq] at k1
    have HQ:=Lib.hid hq
    clear hq
    cases q
    all_goals
     go_wp2_with (first
      |((with_reducible refine wt 23 ?_)
        (refine wl_ixK hK rfl rfl rfl rfl intTy.und intTy.size (h:=?_);intro b23 k23 hat23))
      |(go_at_call 83;(refine (hK.quiet (k1.out _)).mono ?_;clear hK;rintro e w' ⟨rfl,hK⟩))
      |go_big_skip
      |((with_reducible refine wl ?_);refine ld ?_)
      |(with_reducible refine en ?_))
    · go_ret
      refine .inl ⟨fun h=>?_,rfl,hK.mod⟩
      have:=(six_iff.1 h.nums).1 u (List.mem_of_getElem? HU.out)
      rw [<-HQ.out] at this
      cases this
    · go_roundw
      case rel=>exact ⟨j+1,by go_num,rfl,by omega,upto_succ hW.out HU.out HQ.out.symm,hK⟩
      case measure=>simp [intOf];omega
  · obtain rfl:j=6:=by omega
    have hsix:=Lib.hid (show ∀ x∈sixOf c,Go.Sk.within x 1 1000=true from hW.out)
    have k1:=Lib.hid (hwi.out c.height 1 8)
    have k2:=Lib.hid (hwi.out c.queue 1 16)
    have k3:=Lib.hid (hwi.out c.budget 1 1048576)
    obtain ⟨q1,hq1⟩: ∃ q,q=Go.Sk.within c.height 1 8:=⟨_,rfl⟩
    obtain ⟨q2,hq2⟩: ∃ q,q=Go.Sk.within c.queue 1 16:=⟨_,rfl⟩
    obtain ⟨q3,hq3⟩: ∃ q,q=Go.Sk.within c.budget 1 1048576:=⟨_,rfl⟩
    rw [<-hq1] at k1
    rw [<-hq2] at k2
    rw [<-hq3] at k3
    have Q1:=Lib.hid hq1
    have Q2:=Lib.hid hq2
    have Q3:=Lib.hid hq3
    clear hq1 hq2 hq3
    have hcs:(q1=true/\q2=true/\q3=true)\/((q1 && q2 && q3)=false/\(q1=false\/(q1=true/\q2=false)\/(q1=true/\q2=true/\q3=false))):=by
     cases q1<;>cases q2<;>cases q3<;>simp
    rcases hcs with ⟨rfl,rfl,rfl⟩|⟨hf,hf2⟩
    · have kl:=Lib.hid (fun (W:World) (h:Has W (rConf c))=>laid_calls h hz)
      have kb:=Lib.hid (fun (W:World) (b A cap:Nat) (ad:Option Addr)=>gstacks_calls (c:=c) (b:=b) (A:=A) (cap:=cap) (ad:=ad) (w:=W))
      have hAe:Hid (LaidP c.p->c.w*c.h=(((c.p.w*c.p.h).toNat:Nat):Int)):=fun h=>by
       have h1:=Go.Sk.within_iff.1 h.w
       have h2:=Go.Sk.within_iff.1 h.h
       have h3:0<=c.p.w*c.p.h:=Int.mul_nonneg (by omega) (by omega)
       show c.p.w*c.p.h=_
       omega
      have hNu:Hid (LaidP c.p->numsB c.p=true):=fun h=>six_iff.2 ⟨hsix.out,h.w,h.h,Q1.out.symm,Q2.out.symm,Q3.out.symm⟩
      obtain ⟨qb,hqb⟩: ∃ q,q=binsB c.p:=⟨_,rfl⟩
      have QB:=Lib.hid hqb
      rw [<-hqb] at kb
      clear hqb
      cases qb
      all_goals
       go_wp2_with (first
        |(go_at_call 83;first
           |(with_reducible refine (hK.quiet (k1.out _)).mono ?_);clear hK;rintro e w' ⟨rfl,hK⟩
           |(with_reducible refine (hK.quiet (k2.out _)).mono ?_);clear hK;rintro e w' ⟨rfl,hK⟩
           |(with_reducible refine (hK.quiet (k3.out _)).mono ?_);clear hK;rintro e w' ⟨rfl,hK⟩)
        |(go_at_call 84
          refine (kl.out _ (hK.has (by simp))).mono ?_
          rintro e w' (⟨hnl,rfl,m⟩|⟨hl,⟨p,gw,gh,gad,gn,gcap,gks⟩,rfl,⟨e1,e2,e3,e4⟩,hT⟩)
          all_goals first
           |(replace hK:=hK.same m;have HNL:=Lib.hid hnl;clear hnl)
           |(simp only at e1 e2 e3 e4;subst e1 e2 e3 e4;replace hK:=hK.push hT;have HL:=Lib.hid hl;clear hl hT))
        |(go_at_call 85
          obtain ⟨S1,hKS,back⟩:=Know.focus (R:=rGrid (mkG c.p p (c.p.w*c.p.h).toNat gcap gad (kindL c.p))) hK
          refine (robots_calls (c:=c) (hKS.subL (by simp)) (hAe.out HL.out) HL.out hz hwf).mono ?_
          rintro e w' (⟨hnr,rfl,m⟩|⟨hr,rfl,hT⟩)
          all_goals first
           |(replace hK:=back _ [] (Turns.nil m);have HNR:=Lib.hid hnr;clear hnr back hKS)
           |(replace hK:=back _ _ hT;simp only [rGrid,List.cons_append,List.nil_append] at hK;have HR:=Lib.hid hr;clear hr hT back hKS))
        |(go_at_call 86;(refine (hK.quiet (kb.out _ p (c.p.w*c.p.h).toNat gcap gad (GridAt.of hK) (hK.has (by simp)) (hAe.out HL.out) HL.out (nums_iff.1 (hNu.out HL.out)) hz)).mono ?_;clear hK;rintro e w' ⟨rfl,hK⟩))
        |go_big_skip
        |((with_reducible refine wl ?_);refine ld ?_)
        |(with_reducible refine en ?_))
      all_goals
       go_ret
       first
        |exact .inl ⟨fun h=>HNL.out (pre_iff.1 (may_iff.1 h).1).2.1,rfl,hK.mod⟩
        |exact .inl ⟨fun h=>HNR.out (pre_iff.1 (may_iff.1 h).1).2.2,rfl,hK.mod⟩
        |exact .inl ⟨fun h=>(Bool.false_ne_true (QB.out.trans (binsB_true.2 (may_iff.1 h).2))).elim,rfl,hK.mod⟩
        |exact .inr ⟨may_iff.2 ⟨pre_iff.2 ⟨hNu.out HL.out,HL.out,HR.out⟩,binsB_true.1 QB.out.symm⟩,p,gcap,gad,rfl,(hK.sub (.cons_cons _ (.cons_cons _ (.cons _ (.cons _ .slnil))))).turns⟩
    · have hnm: ¬ MayP c.p:=fun h=>by
       obtain ⟨_,_,_,h1,h2,h3⟩:=six_iff.1 h.nums
       rw [Q1.out,Q2.out,Q3.out,h1,h2,h3] at hf
       cases hf
      have HNM:=Lib.hid hnm
      clear hnm hf
      rcases hf2 with rfl|⟨rfl,rfl⟩|⟨rfl,rfl,rfl⟩
      all_goals
       go_wp2_with (first
        |(go_at_call 83;first
           |(with_reducible refine (hK.quiet (k1.out _)).mono ?_);clear hK;rintro e w' ⟨rfl,hK⟩
           |(with_reducible refine (hK.quiet (k2.out _)).mono ?_);clear hK;rintro e w' ⟨rfl,hK⟩
           |(with_reducible refine (hK.quiet (k3.out _)).mono ?_);clear hK;rintro e w' ⟨rfl,hK⟩)
        |go_big_skip
        |((with_reducible refine wl ?_);refine ld ?_)
        |(with_reducible refine en ?_))
       go_ret
       exact .inl ⟨HNM.out,rfl,hK.mod⟩
def NewPost (c:ConfP) (w:World) (e:Ending) (w':World):Prop:=
 (¬ MayP c/\e=.returned (.tuple #[.pointer none,.int .i64 5])/\Mod none' w w')\/(MayP c/\ ∃ b cap ad,e=.returned (.tuple #[.pointer (some ⟨b,0,none⟩),.int .i64 0])/\Turns (rGrid (mkG c b (c.w*c.h).toNat cap ad (kind2 c (homes c)))) w w' none')
set_option maxHeartbeats 2000000 in
theorem gnew_calls {c:ConfV} {w:World} (hc:Has w (rConf c)) (hst:Has w stepsR) (hz:Sized c) (hwf: ∀ p∈c.robots.l,PoseWf p):Calls Tryz.prog 32 #[.agg c.cells.toArray] w (NewPost c.p w):=by
 have hK:=Know.start (L:=[rConf c,stepsR]) w (by intro r hr;simp only [List.mem_cons,List.not_mem_nil,or_false] at hr;rcases hr with rfl|rfl;exact hc;exact hst)
 have km:=Lib.hid (fun (W:World) (h1:Has W (rConf c)) (h2:Has W stepsR)=>made_calls h1 h2 hz hwf)
 go_enter Tryz.func32,Tryz.ntmps32
 go_wp2_with (first
  |((with_reducible refine wb 1 ?_)
    (refine wl_boxK hK rfl rfl rfl rfl ?_;clear hK;intro w1 b1 hK))
  |(go_at_call 60
    refine (km.out _ (hK.has (by simp)) (hK.has (by simp))).mono ?_
    rintro e w' (⟨hn,rfl,m⟩|⟨hm,b,cap,ad,rfl,hT⟩)
    all_goals first
     |(replace hK:=hK.same m;have HN:=Lib.hid hn;clear hn m)
     |(replace hK:=hK.push hT;have HM:=Lib.hid hm;clear hm hT))
  |go_big_skip
  |((with_reducible refine wl ?_);refine ld ?_)
  |(with_reducible refine en ?_))
 all_goals
  go_ret2
  first
   |exact .inl ⟨HN.out,rfl,hK.mod⟩
   |exact .inr ⟨HM.out,b,cap,ad,rfl,(hK.sub (.cons_cons _ (.cons_cons _ (.cons _ .slnil)))).turns⟩
theorem may_laid {c:ConfP} (h:MayP c):LaidP c:=(pre_iff.1 (may_iff.1 h).1).2.1
theorem homes_free {c:ConfP} (h:MayP c): ∀ y∈homes c,y ∉ c.blocked:=fun y hy=>(openB_iff.1 (by
 obtain ⟨p,hp,hy⟩:=List.mem_flatMap.1 hy
 exact fits_open (h.fits p hp) y hy)).2
end Go.Proofs.YtngeeilkpnihmaaGreatDoor
