/- The reference's kinematics: At, Speed, Stop; ticks: Cut, Less; Shift. -/
import Derived.Test.YtngeeilkpnihmaaGreatDoorRgCZ
set_option linter.all false
namespace Go.Proofs.YtngeeilkpnihmaaGreatDoor
open Go Go.Sk Go.RowKit
set_option maxRecDepth 100000
theorem k9_at {k:KinP} (hk:k.Ok) {n t:Int} {w:World} (ht:t<(k.prof n).length):Calls Tryz.prog 145 #[.agg (kinH k).toArray,.int .i64 n,.int .i64 t] w (Ret (.int .i64 (if t<1 then 0 else k.place n t.toNat)) w):=by
 have hK:Know w w none' [] []:=Know.start (L:=[]) w (by simp)
 have kP:=Lib.hid (fun (W:World)=>k9_prof hk (n:=n) (w:=W))
 have hl:=KinP.prof_len hk n
 obtain ⟨N,hN⟩: ∃ N,(k.prof n).length=N:=⟨_,rfl⟩
 rw [hN] at hl ht
 have HN:=Lib.hid hN
 by_cases h0:t<1
 · have d0:decide (t<1)=true:=decide_eq_true h0
   rw [if_pos h0]
   clear h0 hN
   go_enter Tryz.func145,Tryz.ntmps145
   go_wp2_with (first
    |((with_reducible refine wb 3 ?_);(refine wl_boxK (zs:=kinH k) hK rfl rfl rfl rfl ?_;clear hK;intro w3 b3 hK))
    |(go_at_call 128;(refine (kP.out _).mono ?_;rintro e w' ⟨ad,cap,rfl,hT⟩;replace hK:=hK.push1 hT;clear hT))
    |go_big_skip
    |((with_reducible refine wl ?_);refine ldQ ?_)
    |(with_reducible refine en ?_))
   go_ret
   exact ⟨rfl,hK.mod⟩
 · have d0:decide (t<1)=false:=decide_eq_false h0
   rw [if_neg h0]
   obtain ⟨m,hm⟩: ∃ m:Nat,t=(m:Int)+1:=⟨(t - 1).toNat,by omega⟩
   obtain ⟨x,hx⟩: ∃ x,(k.prof n)[m]?=some x:=⟨_,List.getElem?_eq_getElem (by rw [HN.out];omega)⟩
   have HX:=Lib.hid hx
   have HZ:=Lib.hid (show x=k.place n t.toNat by
    unfold KinP.place
    rw [List.getD_eq_getElem?_getD,show t.toNat - 1=m by omega,HX.out]
    rfl)
   have hm3:=Lib.hid (show t - 1=(m:Int) by omega)
   have d1:((N:Int) == 0)=false:=beq_eq_false_iff_ne.2 (by omega)
   have d1':decide ((N:Int)=0)=false:=decide_eq_false (by omega)
   have d2:decide ((N:Int)<=t)=false:=decide_eq_false (by omega)
   rw [hN] at kP
   clear hx hN hm
   go_enter Tryz.func145,Tryz.ntmps145
   go_wp2_with (first
    |((with_reducible refine wb 3 ?_);(refine wl_boxK (zs:=kinH k) hK rfl rfl rfl rfl ?_;clear hK;intro w3 b3 hK))
    |(go_at_call 128;(refine (kP.out _).mono ?_;rintro e w' ⟨ad,cap,rfl,hT⟩;replace hK:=hK.push1 hT;clear hT))
    |((with_reducible refine wt 29 ?_)
      (refine wl_ixK (i:=m) (u:=x) hK rfl rfl rfl (show Value.int .i64 (t - 1)=.int .i64 (m:Int) by rw [hm3.out]) intTy.und intTy.size (hu:=HX) (h:=?_);intro b29 k29 hat29))
    |go_big_skip
    |((with_reducible refine wl ?_);refine ldQ ?_)
    |(with_reducible refine en ?_))
   go_ret
   exact ⟨by rw [<-HZ.out];rfl,hK.mod⟩
theorem k9_speed {k:KinP} (hk:k.Ok) {n t:Int} {w:World} (h1:1<=t) (ht:t<(k.prof n).length):Calls Tryz.prog 146 #[.agg (kinH k).toArray,.int .i64 n,.int .i64 t] w (Ret (.int .i64 (k.pace n t.toNat)) w):=by
 have hK:Know w w none' [] []:=Know.start (L:=[]) w (by simp)
 have kA:=Lib.hid (fun (W:World)=>k9_at hk (n:=n) (t:=t) (w:=W) ht)
 have kB:=Lib.hid (fun (W:World)=>k9_at hk (n:=n) (t:=t - 1) (w:=W) (by omega))
 rw [if_neg (by omega)] at kA
 have hb1:=place_bd hk n t.toNat
 have hl:=KinP.prof_len hk n
 have hP:k.pace n t.toNat=k.place n t.toNat - (if t - 1<1 then 0 else k.place n (t - 1).toNat):=by
  unfold KinP.pace
  by_cases h:t=1
  · subst h;rfl
  · rw [if_neg (by omega),if_neg (by omega),show (t - 1).toNat=t.toNat - 1 by omega]
 have hb2:0<=(if t - 1<1 then (0:Int) else k.place n (t - 1).toNat)/\(if t - 1<1 then (0:Int) else k.place n (t - 1).toNat)<=16000:=by
  split
  · omega
  · exact place_bd hk n _
 rw [hP]
 have ht2:t<=16000:=by omega
 obtain ⟨A,hA⟩: ∃ A,k.place n t.toNat=A:=⟨_,rfl⟩
 obtain ⟨B,hB⟩: ∃ B,(if t - 1<1 then (0:Int) else k.place n (t - 1).toNat)=B:=⟨_,rfl⟩
 rw [hA] at kA hb1 ⊢
 rw [hB] at kB hb2 ⊢
 obtain ⟨b10,b11⟩:=hb1
 obtain ⟨b20,b21⟩:=hb2
 have d0:decide (t<1)=false:=decide_eq_false (by omega)
 clear hA hB hP ht
 go_enter Tryz.func146,Tryz.ntmps146
 go_wp2_with (first
  |((with_reducible refine wb 3 ?_);(refine wl_boxK (zs:=kinH k) hK rfl rfl rfl rfl ?_;clear hK;intro w3 b3 hK))
  |((with_reducible refine wp_region_stableK (id:=3) hK [4] [rBlk b3 (kinH k) 176] (by kernel_rfl) (by kernel_rfl) (by simp) (by kernel_rfl) ?_);clear hK;intro w' hK)
  |(with_reducible refine wpC_of ?_)
  |(with_reducible refine atEndC (hK.cls (by simp)) ?_)
  |((with_reducible refine wpC_end' ?_);refine wpC_nil ⟨by kernel_rfl,stays_loadSK rfl rfl rfl rfl (aggT (by decide)) (rest:=stays_nil),?_⟩)
  |(go_at_call 145;(first
     |(with_reducible refine (hK.quiet (kA.out _)).mono ?_;clear hK;rintro e w' ⟨rfl,hK⟩)
     |(with_reducible refine (hK.quiet (kB.out _)).mono ?_;clear hK;rintro e w' ⟨rfl,hK⟩)))
  |go_big_skip
  |((with_reducible refine wl ?_);refine ldQ ?_)
  |(with_reducible refine en ?_))
 go_ret
 exact ⟨rfl,hK.mod⟩
set_option maxHeartbeats 2000000 in
theorem k9_stop {k:KinP} (hok:k.Ok) {n t:Int} {w:World}:Calls Tryz.prog 125 #[.agg (kinH k).toArray,.int .i64 n,.int .i64 t] w (Ret (.tuple #[.int .i64 (k.stop n t).1,.int .i64 (k.stop n t).2]) w):=by
 have hK:Know w w none' [] []:=Know.start (L:=[]) w (by simp)
 have kP:=Lib.hid (fun (W:World)=>k9_prof hok (n:=n) (w:=W))
 have hl:=KinP.prof_len hok n
 obtain ⟨N,hN⟩: ∃ N,(k.prof n).length=N:=⟨_,rfl⟩
 rw [hN] at hl kP
 by_cases h0:t<1\/N=0
 · have hs:k.stop n t=(0,0):=by unfold KinP.stop;rw [if_pos (by rw [hN];exact h0)]
   rw [hs]
   by_cases h1:t<1
   · have d1:decide (t<1)=true:=decide_eq_true h1
     clear h0 h1 hN hs
     go_enter Tryz.func125,Tryz.ntmps125
     go_wp2_with (first
      |((with_reducible refine wb 3 ?_);(refine wl_boxK (zs:=kinH k) hK rfl rfl rfl rfl ?_;clear hK;intro w3 b3 hK))
      |(go_at_call 128;(refine (kP.out _).mono ?_;rintro e w' ⟨ad,cap,rfl,hT⟩;replace hK:=hK.push1 hT;clear hT))
      |go_big_skip
      |((with_reducible refine wl ?_);refine ldQ ?_)
      |(with_reducible refine en ?_))
     go_ret2
     exact ⟨rfl,hK.mod⟩
   · have d1:decide (t<1)=false:=decide_eq_false h1
     have hz:N=0:=h0.resolve_left h1
     subst hz
     clear h0 h1 hN hs
     go_enter Tryz.func125,Tryz.ntmps125
     go_wp2_with (first
      |((with_reducible refine wb 3 ?_);(refine wl_boxK (zs:=kinH k) hK rfl rfl rfl rfl ?_;clear hK;intro w3 b3 hK))
      |(go_at_call 128;(refine (kP.out _).mono ?_;rintro e w' ⟨ad,cap,rfl,hT⟩;replace hK:=hK.push1 hT;clear hT))
      |go_big_skip
      |((with_reducible refine wl ?_);refine ldQ ?_)
      |(with_reducible refine en ?_))
     go_ret2
     exact ⟨rfl,hK.mod⟩
 · obtain ⟨h1,h2⟩: ¬ t<1/\ ¬ N=0:=⟨fun e=>h0 (.inl e),fun e=>h0 (.inr e)⟩
   have d1:decide (t<1)=false:=decide_eq_false h1
   have d2:((N:Int) == 0)=false:=beq_eq_false_iff_ne.2 (by omega)
   have d2':decide ((N:Int)=0)=false:=decide_eq_false (by omega)
   by_cases h3:(N:Int)<=t
   · have hs:k.stop n t=(n,0):=by unfold KinP.stop;rw [if_neg (by rw [hN];exact h0),if_pos (by rw [hN];exact h3)]
     rw [hs]
     have d3:decide ((N:Int)<=t)=true:=decide_eq_true h3
     have d3':decide (t>=(N:Int))=true:=decide_eq_true h3
     clear hN hs h0 h3 h2
     go_enter Tryz.func125,Tryz.ntmps125
     go_wp2_with (first
      |((with_reducible refine wb 3 ?_);(refine wl_boxK (zs:=kinH k) hK rfl rfl rfl rfl ?_;clear hK;intro w3 b3 hK))
      |(go_at_call 128;(refine (kP.out _).mono ?_;rintro e w' ⟨ad,cap,rfl,hT⟩;replace hK:=hK.push1 hT;clear hT))
      |go_big_skip
      |((with_reducible refine wl ?_);refine ldQ ?_)
      |(with_reducible refine en ?_))
     go_ret2
     exact ⟨rfl,hK.mod⟩
   · have d3:decide ((N:Int)<=t)=false:=decide_eq_false h3
     have d3':decide (t>=(N:Int))=false:=decide_eq_false h3
     obtain ⟨hn,g1,g2,g3,g4⟩:=KinP.mid hok (n:=n) (t:=t.toNat) (by omega) (by rw [hN];omega)
     obtain ⟨c1,c2,c3⟩:=KinP.cells_is hok (n:=n) (t:=t.toNat) (by omega) (by rw [hN];omega)
     have hpl:=place_bd hok n t.toNat
     have hbr:=brakeP_le (a:=k.accel) (s:=k.pace n t.toNat) hok.a1 (by have:=hok.s2;omega)
     have kA:=Lib.hid (fun (W:World)=>k9_at hok (n:=n) (t:=t) (w:=W) (by rw [hN];omega))
     rw [if_neg h1] at kA
     have kS:=Lib.hid (fun (W:World)=>k9_speed hok (n:=n) (t:=t) (w:=W) (by omega) (by rw [hN];omega))
     have kB:=Lib.hid (fun (W:World)=>k9_brake hok (s:=k.pace n t.toNat) (w:=W) (by omega) (by have:=hok.s2;omega))
     obtain ⟨pl,hpl0⟩: ∃ pl,k.place n t.toNat=pl:=⟨_,rfl⟩
     obtain ⟨pc,hpc0⟩: ∃ pc,k.pace n t.toNat=pc:=⟨_,rfl⟩
     obtain ⟨cl,hcl0⟩: ∃ cl,k.cells n t.toNat=cl:=⟨_,rfl⟩
     obtain ⟨br,hbr0⟩: ∃ br,brakeP k.accel pc=br:=⟨_,rfl⟩
     have hmul:cl*k.unit<=n*k.unit:=by rw [<-hcl0];exact Int.mul_le_mul_of_nonneg_right c2 (by have:=hok.u1;omega)
     have hfar:=KinP.far hok hn
     have hclq:(pl+br+k.unit - 1) / k.unit=cl:=by rw [<-hcl0,<-hpl0,<-hbr0,<-hpc0];rfl
     rw [hpc0,hbr0] at hbr
     rw [hpl0,hpc0,hbr0] at g4
     rw [hpl0] at g1 hpl kA
     rw [hpc0] at g2 g3 kS kB
     rw [hbr0] at kB
     rw [hcl0] at c1 c2
     obtain ⟨X,hX⟩: ∃ X,stepsP true k.accel pc (cl*k.unit) pl pc=X:=⟨_,rfl⟩
     have hXl:X.length<=16000:=by
      have:=stepsP_len (falls:=true) (a:=k.accel) (e:=cl*k.unit) hok.a1 (cl*k.unit - pl).toNat pc pl pc (by omega) (by omega) (by omega)
      rw [hX] at this
      omega
     have hs:k.stop n t=(cl,(X.length:Int)):=by
      unfold KinP.stop
      rw [if_neg (by rw [hN];exact h0),if_neg (by rw [hN];exact h3),hpl0,hpc0,hcl0,hX]
     rw [hs]
     have HK:=Lib.hid hok
     have hu1:=hok.u1
     have hu2:=hok.u2
     have hs2:=hok.s2
     have ha:=hok.a1
     have HCL:=Lib.hid hclq
     obtain ⟨E,hE⟩: ∃ E,cl*k.unit=E:=⟨_,rfl⟩
     rw [hE] at hX hmul
     have HXL:=Lib.hid (show (stepsP true k.accel pc E pl pc).length=X.length by rw [hX])
     have hE2:E<=16000:=by omega
     have hplE:pl<=E:=by rw [hpl0,hpc0,hbr0,hcl0,hE] at c3;omega
     have HW:=Lib.hid (show (cl*k.unit+9223372036854775808) % 18446744073709551616 - 9223372036854775808=E by
      rw [hE]
      have:1*1<=cl*k.unit:=Int.mul_le_mul c1 hu1 (by omega) (by omega)
      omega)
     obtain ⟨g40,g41⟩:=hpl
     obtain ⟨hb0,hb1⟩:=hbr
     clear hN hs h0 h3 h2 hpl0 hpc0 hcl0 hbr0 hX hok hclq g4 c3 hE
     go_enter Tryz.func125,Tryz.ntmps125
     go_wp2_with (first
      |((with_reducible refine wb 3 ?_);(refine wl_boxK (zs:=kinH k) hK rfl rfl rfl rfl ?_;clear hK;intro w3 b3 hK))
      |(go_at_call 128;(refine (kP.out _).mono ?_;rintro e w' ⟨ad,cap,rfl,hT⟩;replace hK:=hK.push1 hT;clear hT))
      |(go_at_call 145;(refine (hK.quiet (kA.out _)).mono ?_;clear hK;rintro e w' ⟨rfl,hK⟩))
      |(go_at_call 146;(refine (hK.quiet (kS.out _)).mono ?_;clear hK;rintro e w' ⟨rfl,hK⟩))
      |(go_at_call 147;(refine (hK.quiet (kB.out _)).mono ?_;clear hK;rintro e w' ⟨rfl,hK⟩))
      |((with_reducible refine wp_region_stableK (id:=8) hK [6,10] [rBlk b3 (kinH k) 176] (by kernel_rfl) (by kernel_rfl) (by simp) (by kernel_rfl) ?_);clear hK;intro w' hK)
      |(with_reducible refine wpC_of ?_)
      |(with_reducible refine atEndC (hK.cls (by simp)) ?_)
      |((with_reducible refine wpC_end' ?_);refine wpC_nil ⟨by kernel_rfl,stays_loadK rfl rfl rfl rfl (scalT (by decide)) rfl (rest:=stays_loadK rfl rfl rfl rfl (scalT (by decide)) rfl (rest:=stays_nil)),?_⟩)
      |go_big_skip
      |((with_reducible refine wl ?_);refine ldQ ?_)
      |(with_reducible refine en ?_))
     rw [HCL.out]
     replace hK:=hK.sub (M':=[rBlk b3 (kinH k) 176]) (.cons _ (.cons_cons _ .slnil))
     go_loopg [9,10,12] (E - pl).toNat (fun m t9 t10 t12 wr=> ∃ (p s:Int) (i:Nat),t9=.int .i64 p/\t10=.int .i64 s/\t12=.int .i64 i/\m=(E - p).toNat/\Hid (i+(stepsP true k.accel s E p s).length=X.length)/\0<=p/\p<=E/\1<=s/\s<=1000/\Know w wr none' [rBlk b3 (kinH k) 176] [])
     case atStart=>exact ⟨pl,pc,0,rfl,rfl,rfl,rfl,Lib.hid (by rw [Nat.zero_add];exact HXL.out),g40,hplE,g2,by omega,hK⟩
     case round=>
      clear hK
      obtain ⟨p,s,i,rfl,rfl,rfl,rfl,hP,p0,p1,s0,s1,hK⟩:=hrel
      have hil:i<=16000:=by have:=hP.out;omega
      by_cases hlt:p<E
      · obtain ⟨q,hq⟩: ∃ q,nextP k.accel (E - p) s s=q:=⟨_,rfl⟩
        have hnx:=nextP_is (a:=k.accel) (r:=E - p) (s:=s) (v:=s) ha (by omega) (by omega) s0
        rw [hq] at hnx
        obtain ⟨n1,n2,n3,_⟩:=hnx
        have HP:=Lib.hid (show (i+1)+(stepsP true k.accel q E (p+q) q).length=X.length by
         have h:=hP.out
         rw [stepsP_go ha (by omega) s0 hlt,hq,if_pos rfl,List.length_cons] at h
         omega)
        have kN:=Lib.hid (fun (W:World)=>show Calls Tryz.prog 148 #[.agg (kinH k).toArray,.int .i64 (E - p),.int .i64 s,.int .i64 s] W (Ret (.int .i64 q) W) by
         have:=k9_next (r:=E - p) (s:=s) (v:=s) (w:=W) HK.out (by omega) (by omega) (by omega) s1 s0 s1
         rw [hq] at this
         exact this)
        clear hq
        go_wp2_with (first
         |((with_reducible refine wt 52 ?_);(refine wl_pure (v:=.int .i64 E) rfl (fun W=>by go_simp;rw [IntKind.wrap_i64];exact HW.out) ?_))
         |((with_reducible refine wt 58 ?_);(refine wl_pure (v:=.int .i64 E) rfl (fun W=>by go_simp;rw [IntKind.wrap_i64];exact HW.out) ?_))
         |(go_at_call 148;(refine (hK.quiet (kN.out _)).mono ?_;clear hK;rintro e w' ⟨rfl,hK⟩))
         |go_big_skip
         |((with_reducible refine wl ?_);refine ldQ ?_)
         |(with_reducible refine en ?_))
        go_roundg (E - (p+q)).toNat
        case measure=>omega
        case rel=>exact ⟨p+q,q,i+1,rfl,rfl,by go_num,rfl,HP,by omega,by omega,n1,by omega,hK⟩
      · have HP:=Lib.hid (show i=X.length by have h:=hP.out;rw [stepsP_end hlt] at h;simpa using h)
        go_wp2_with (first
         |((with_reducible refine wt 52 ?_);(refine wl_pure (v:=.int .i64 E) rfl (fun W=>by go_simp;rw [IntKind.wrap_i64];exact HW.out) ?_))
         |go_big_skip
         |((with_reducible refine wl ?_);refine ldQ ?_)
         |(with_reducible refine en ?_))
        go_ret2
        exact ⟨by rw [HP.out];rfl,hK.mod⟩
theorem ref_cut {a:Int} {w:World}:Calls Tryz.prog 144 #[.int .i64 a] w (Ret (.int .i64 (cutP a)) w):=by
 have hK:Know w w none' [] []:=Know.start (L:=[]) w (by simp)
 obtain ⟨T,hT⟩: ∃ T,cutP a=T:=⟨_,rfl⟩
 rw [hT]
 have HT:=Lib.hid hT
 have hc:(a<0/\T=0)\/(¬ a<0/\4611686018427387904<a/\T=4611686018427387904)\/(¬ a<0/\ ¬ 4611686018427387904<a/\T=a):=by
  unfold cutP at hT;omega
 clear hT
 go_enter Tryz.func144,Tryz.ntmps144
 rcases hc with ⟨c1,e⟩|⟨c1,c2,e⟩|⟨c1,c2,e⟩
 all_goals
  have HE:=Lib.hid e
  clear e
  go_wp2_with (first
   |go_big_skip
   |((with_reducible refine wl ?_);refine ldQ ?_)
   |(with_reducible refine en ?_))
  go_ret
  exact ⟨by rw [HE.out];rfl,hK.mod⟩
theorem ref_less {a b:Int} {w:World}:Calls Tryz.prog 124 #[.int .i64 a,.int .i64 b] w (Ret (.int .i64 (lessP a b)) w):=by
 have hK:Know w w none' [] []:=Know.start (L:=[]) w (by simp)
 have kA:=Lib.hid (fun (W:World)=>ref_cut (a:=a) (w:=W))
 have kB:=Lib.hid (fun (W:World)=>ref_cut (a:=b) (w:=W))
 have ha:=cutP_bd a
 have hb:=cutP_bd b
 obtain ⟨T,hT⟩: ∃ T,lessP a b=T:=⟨_,rfl⟩
 rw [hT]
 obtain ⟨x,hx⟩: ∃ x,cutP a=x:=⟨_,rfl⟩
 obtain ⟨y,hy⟩: ∃ y,cutP b=y:=⟨_,rfl⟩
 unfold lessP at hT
 rw [hx] at hT kA ha
 rw [hy] at hT kB hb
 obtain ⟨a0,a1⟩:=ha
 obtain ⟨b0,b1⟩:=hb
 have hc:(x=4611686018427387904/\T=4611686018427387904)\/(x≠4611686018427387904/\x<y/\T=0)\/(x≠4611686018427387904/\ ¬ x<y/\T=x - y):=by
  by_cases h:x=4611686018427387904
  · rw [if_pos h] at hT;exact .inl ⟨h,hT.symm⟩
  · rw [if_neg h] at hT
    by_cases h2:x<y
    · exact .inr (.inl ⟨h,h2,by omega⟩)
    · exact .inr (.inr ⟨h,h2,by omega⟩)
 clear hT hx hy
 go_enter Tryz.func124,Tryz.ntmps124
 rcases hc with ⟨c1,e⟩|⟨c1,c2,e⟩|⟨c1,c2,e⟩
 · subst c1
   have HE:=Lib.hid e
   clear e
   go_wp2_with (first
    |(go_at_call 144;(first
       |(with_reducible refine (hK.quiet (kA.out _)).mono ?_;clear hK;rintro e w' ⟨rfl,hK⟩)
       |(with_reducible refine (hK.quiet (kB.out _)).mono ?_;clear hK;rintro e w' ⟨rfl,hK⟩)))
    |go_big_skip
    |((with_reducible refine wl ?_);refine ldQ ?_)
    |(with_reducible refine en ?_))
   go_ret
   exact ⟨by rw [HE.out];rfl,hK.mod⟩
 all_goals
  have d1:(x == 4611686018427387904)=false:=beq_eq_false_iff_ne.2 c1
  have d1':decide (x=4611686018427387904)=false:=decide_eq_false c1
  have HE:=Lib.hid e
  clear e c1
  go_wp2_with (first
   |(go_at_call 144;(first
      |(with_reducible refine (hK.quiet (kA.out _)).mono ?_;clear hK;rintro e w' ⟨rfl,hK⟩)
      |(with_reducible refine (hK.quiet (kB.out _)).mono ?_;clear hK;rintro e w' ⟨rfl,hK⟩)))
   |go_big_skip
   |((with_reducible refine wl ?_);refine ldQ ?_)
   |(with_reducible refine en ?_))
  go_ret
  exact ⟨by rw [HE.out];rfl,hK.mod⟩
end Go.Proofs.YtngeeilkpnihmaaGreatDoor
