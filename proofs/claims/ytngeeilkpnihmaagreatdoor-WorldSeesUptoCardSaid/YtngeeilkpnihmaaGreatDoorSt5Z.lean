/- The stacks: Drop. -/
import Derived.Test.YtngeeilkpnihmaaGreatDoorStAZ
set_option linter.all false
namespace Go.Proofs.YtngeeilkpnihmaaGreatDoor
open Go Go.Sk Go.RowKit
set_option maxRecDepth 100000
theorem port_pos {c:ConfP} (h:MayP c) {b A cap:Nat} {ad:Option Addr} (hA:c.w*c.h=A) (x:Cell):0<=portG (mkG c b A cap ad (kind2 c (homes c))) x ↔ x∈c.ports:=by
 unfold portG
 rw [mkG_in]
 constructor
 · intro hq
   split at hq
   · rename_i hc
     obtain ⟨hi,hk⟩:=hc
     rw [mkG_kd hA hi] at hk
     have hh:x ∉ homes c:=by
      intro hh
      unfold kind2 at hk
      rw [if_pos hh] at hk
      omega
     have hb:x ∉ c.blocked:=by
      intro hb
      have:=(kind2_open (homes_free h)).2 hb
      omega
     exact (kind2_pos hh hb).1 (by omega)
   · omega
 · intro hp
   have hi:=h.inside x (by simp [hp])
   have hb:x ∉ c.blocked:=fun hb=>(List.nodup_append.1 h.apart).2.2 x hb x hp rfl
   have hh:x ∉ homes c:=fun hh=>h.clear x hh hp
   have hk:=(kind2_pos hh hb).2 hp
   rw [mkG_kd hA hi,if_pos ⟨hi,by omega⟩]
   omega
def roomP (c:ConfP) (x:Cell):Int:=if x∈c.ports then 1 else if stackedB c x=true then c.height else 0
def dropE (c:ConfP) (f:Cell->List Int) (loads:List Int) (i:Int) (x:Cell):Int:=
 if openB c x=true/\0<=i/\i<loads.length then (if loads.getD i.toNat 0=0 then 8 else if roomP c x<=(f x).length then 2 else 0) else 1
def DropPost (c:ConfP) (s:StV) (f:Cell->List Int) (i:Int) (x:Cell) (S:Nat->Prop) (w:World) (e:Ending) (w':World):Prop:=
 (dropE c f s.loads i x≠0/\e=.returned (.int .i64 (dropE c f s.loads i x))/\Turns (rSt c s) w w' S)\/
 (dropE c f s.loads i x=0/\ ∃ s',e=.returned (.int .i64 0)/\StOk c s' (putF f x (f x++[s.loads.getD i.toNat 0]))/\s'.p=s.p/\s'.loads=s.loads.set i.toNat 0/\Turns (rSt c s') w w' S)
set_option maxHeartbeats 8000000 in
theorem s_drop {c:ConfP} {s:StV} {f:Cell->List Int} {i:Int} {x:Cell} {w:World} {S:Nat->Prop} (hK:Know w w S (rSt c s) []) (h:StOk c s f):Calls Tryz.prog 70 #[s.ptr,.int .i64 i,.agg x.cells.toArray] w (DropPost c s f i x S w):=by
 have kA:=Lib.hid (fun (W:World) (h1: ∀ r∈rSt c s,Has W r)=>s_at (x:=x) (StAt.has h1) h)
 have hg: ∀ r∈rSt c s,Has w r:=fun r hr=>hK.get (by simp [hr])
 have hln:s.ln=s.loads.length:=(StAt.has hg).loads.n
 rcases at_ways h x with ⟨h1,h2⟩|⟨m,row,h1,hm,h2,h3,h4,h5,h6,h7⟩
 · rw [h1] at kA
   have hE:dropE c f s.loads i x=1:=by unfold dropE;rw [if_neg (by rw [h2];simp)]
   have HE:=Lib.hid hE
   clear h1 h2 hE hg
   go_enter Tryz.func70,Tryz.ntmps70
   go_wp2_with (first
    |((with_reducible refine wb 5 ?_)
      (refine wl_boxK hK rfl rfl rfl rfl ?_;clear hK;intro w5 b5 hK))
    |(go_at_call 92;(refine (hK.quiet (kA.out _ (fun r hr=>hK.get (List.mem_append_left _ (List.mem_cons_of_mem _ hr))))).mono ?_;clear hK;rintro e w' ⟨rfl,hK⟩))
    |go_big_skip
    |go_big_skip
    |((with_reducible refine wl ?_);refine ld ?_)
    |(with_reducible refine en ?_))
   go_ret
   exact .inl ⟨by rw [HE.out];decide,by rw [HE.out];rfl,(hK.sub (.cons _ (List.Sublist.refl _))).turns⟩
 · rw [h1] at kA
   by_cases hi0:i<0
   · have hE:dropE c f s.loads i x=1:=by unfold dropE;rw [if_neg (by omega)]
     have HE:=Lib.hid hE
     clear h1 h2 h3 h4 hE hg
     go_enter Tryz.func70,Tryz.ntmps70
     go_wp2_with (first
      |((with_reducible refine wb 5 ?_)
        (refine wl_boxK hK rfl rfl rfl rfl ?_;clear hK;intro w5 b5 hK))
      |(go_at_call 92;(refine (hK.quiet (kA.out _ (fun r hr=>hK.get (List.mem_append_left _ (List.mem_cons_of_mem _ hr))))).mono ?_;clear hK;rintro e w' ⟨rfl,hK⟩))
      |go_big_skip
      |go_big_skip
      |((with_reducible refine wl ?_);refine ld ?_)
      |(with_reducible refine en ?_))
     go_ret
     exact .inl ⟨by rw [HE.out];decide,by rw [HE.out];rfl,(hK.sub (.cons _ (List.Sublist.refl _))).turns⟩
   · obtain ⟨k,rfl⟩: ∃ k:Nat,i=(k:Int):=⟨i.toNat,by omega⟩
     by_cases hk:k<s.ln
     · have e1:decide (s.ln<=k)=false:=decide_eq_false (by omega)
       have e2:decide ((s.ln:Int)<=(k:Int))=false:=decide_eq_false (by omega)
       have hu:s.loads[k]?=some (s.loads.getD k 0):=by rw [List.getD_eq_getElem?_getD,List.getElem?_eq_getElem (by omega)];rfl
       obtain ⟨v,hv⟩: ∃ v,v=s.loads.getD k 0:=⟨_,rfl⟩
       rw [<-hv] at hu
       have HU:=Lib.hid hu
       have HR:=Lib.hid h3
       by_cases hv0:v=0
       · subst hv0
         have hE:dropE c f s.loads k x=8:=by
          unfold dropE
          rw [if_pos ⟨h2,by omega,by omega⟩,Int.toNat_natCast,<-hv,if_pos rfl]
         have HE:=Lib.hid hE
         clear h1 h2 h3 h4 hE hg hu hv hln
         simp only [rSt,StV.lv] at hK
         go_enter Tryz.func70,Tryz.ntmps70
         go_wp2_with (first
          |((with_reducible refine wb 5 ?_)
            (refine wl_boxK hK rfl rfl rfl rfl ?_;clear hK;intro w5 b5 hK))
          |(go_at_call 92;(refine (hK.quiet (kA.out _ (fun r hr=>hK.get (List.mem_append_left _ (List.mem_cons_of_mem _ hr))))).mono ?_;clear hK;rintro e w' ⟨rfl,hK⟩))
          |go_big_skip
          |((with_reducible refine wt 32 ?_)
            (refine wl_ixK hK rfl rfl rfl rfl intTy.und intTy.size (h:=?_);intro b32 k32 hat32))
          |go_big_skip
          |((with_reducible refine wl ?_);refine ld ?_)
          |(with_reducible refine en ?_))
         go_ret
         exact .inl ⟨by rw [HE.out];decide,by rw [HE.out];rfl,(hK.sub (.cons _ (List.Sublist.refl _))).turns⟩
       · have hok:=mkG_ok (b:=s.b) (A:=s.A) (cap:=s.cap) (ad:=s.ad) (may_laid h.may) h.A (kind2_bd h.may.ports8 (homes c))
         have hpp:=port_pos (b:=s.b) (cap:=s.cap) (ad:=s.ad) h.may h.A x
         obtain ⟨q,hq⟩: ∃ q,q=portG (mkG c s.b s.A s.cap s.ad (kind2 c (homes c))) x:=⟨_,rfl⟩
         obtain ⟨t,ht⟩: ∃ t,t=stackedB c x:=⟨_,rfl⟩
         have kP:=Lib.hid (fun (W:World) (h1:Blk W s.b [.int .i64 c.w,.int .i64 c.h,.slice s.ad s.A s.cap] 148) (h2:Rd W elInt (.slice s.ad s.A s.cap) (gridL s.A c.w (kind2 c (homes c))))=>
          show Calls Tryz.prog 71 #[.pointer (some ⟨s.b,0,none⟩),.agg x.cells.toArray] W (Ret (.int .i64 q) W) by
           have:=gr_port (g:=mkG c s.b s.A s.cap s.ad (kind2 c (homes c))) (x:=x) ⟨h1,h2⟩ hok
           rw [<-hq] at this
           exact this)
         have kS:=Lib.hid (fun (W:World) (h1:Blk W s.b [.int .i64 c.w,.int .i64 c.h,.slice s.ad s.A s.cap] 148) (h2:Rd W elInt (.slice s.ad s.A s.cap) (gridL s.A c.w (kind2 c (homes c))))=>
          show Calls Tryz.prog 94 #[.pointer (some ⟨s.b,0,none⟩),.agg x.cells.toArray] W (Ret (.bool t) W) by
           have:=gr_stacked (g:=mkG c s.b s.A s.cap s.ad (kind2 c (homes c))) (x:=x) ⟨h1,h2⟩ hok
           rw [mkG_stacked h.A,<-ht] at this
           exact this)
         rw [<-hq] at hpp
         have hEd:dropE c f s.loads k x=if roomP c x<=(row.l.length:Int) then 2 else 0:=by
          unfold dropE
          rw [if_pos ⟨h2,by omega,by omega⟩,Int.toNat_natCast,<-hv,if_neg hv0,h4]
         have hH:=(nums_iff.1 h.may.nums).height
         have e0:(v == 0)=false:=beq_eq_false_iff_ne.2 hv0
         have hx:f x=row.l:=h4.symm
         have hcase:(roomP c x<=(row.l.length:Int)/\((q<0/\t=false)\/(q<0/\t=true/\c.height<=(row.l.length:Int))\/(0<=q/\1<=(row.l.length:Int))))\/(¬ roomP c x<=(row.l.length:Int)/\((q<0/\t=true/\(row.l.length:Int)<c.height)\/(0<=q/\row.l.length=0))):=by
          unfold roomP
          rw [<-ht]
          by_cases hp:x∈c.ports
          · have:=hpp.2 hp
            rw [if_pos hp]
            omega
          · have: ¬ 0<=q:=fun h=>hp (hpp.1 h)
            rw [if_neg hp]
            cases t
            · rw [if_neg (by simp)]
              left
              exact ⟨by omega,.inl ⟨by omega,rfl⟩⟩
            · rw [if_pos rfl]
              by_cases hl:c.height<=(row.l.length:Int)
              · exact .inl ⟨hl,.inr (.inl ⟨by omega,rfl,hl⟩)⟩
              · exact .inr ⟨hl,.inl ⟨by omega,rfl,by omega⟩⟩
         rcases hcase with ⟨hr,hw⟩|⟨hr,hw⟩
         · rw [if_pos hr] at hEd
           have HE:=Lib.hid hEd
           clear hr hEd hpp ht hq hx h1 h2 h3 h4 hg hu hv hln hok hH h7
           simp only [rSt,StV.lv] at hK
           rcases hw with ⟨hq0,rfl⟩|⟨hq0,rfl,hl⟩|⟨hq0,hl⟩
           · have e5:decide (0<=q)=false:=decide_eq_false (by omega)
             go_enter Tryz.func70,Tryz.ntmps70
             go_wp2_with (first
              |((with_reducible refine wb 5 ?_)
                (refine wl_boxK hK rfl rfl rfl rfl ?_;clear hK;intro w5 b5 hK))
              |(go_at_call 92;(refine (hK.quiet (kA.out _ (fun r hr=>hK.get (List.mem_append_left _ (List.mem_cons_of_mem _ hr))))).mono ?_;clear hK;rintro e w' ⟨rfl,hK⟩))
              |go_big_skip
              |(go_at_call 71;(refine (hK.quiet (kP.out _ hK.blk hK.rd)).mono ?_;clear hK;rintro e w' ⟨rfl,hK⟩))
              |(go_at_call 94;(refine (hK.quiet (kS.out _ hK.blk hK.rd)).mono ?_;clear hK;rintro e w' ⟨rfl,hK⟩))
              |((with_reducible refine wt 32 ?_)
                (refine wl_ixK hK rfl rfl rfl rfl intTy.und intTy.size (h:=?_);intro b32 k32 hat32))
              |((with_reducible refine wt 59 ?_)
                (refine wl_ixK hK rfl rfl rfl rfl rowTy.und rowTy.size (h:=?_);intro b59 k59 hat59))
              |((with_reducible refine tx 7 hK ?_);clear hK;intro w' hK)
              |((with_reducible refine tx 9 hK ?_);clear hK;intro w' hK)
              |go_big_skip
              |((with_reducible refine wl ?_);refine ld ?_)
              |(with_reducible refine en ?_))
             go_ret
             exact .inl ⟨by rw [HE.out];decide,by rw [HE.out];rfl,(hK.sub (.cons _ (List.Sublist.refl _))).turns⟩
           · have e5:decide (0<=q)=false:=decide_eq_false (by omega)
             have e6:decide (c.height<=(row.l.length:Int))=true:=decide_eq_true hl
             go_enter Tryz.func70,Tryz.ntmps70
             go_wp2_with (first
              |((with_reducible refine wb 5 ?_)
                (refine wl_boxK hK rfl rfl rfl rfl ?_;clear hK;intro w5 b5 hK))
              |(go_at_call 92;(refine (hK.quiet (kA.out _ (fun r hr=>hK.get (List.mem_append_left _ (List.mem_cons_of_mem _ hr))))).mono ?_;clear hK;rintro e w' ⟨rfl,hK⟩))
              |go_big_skip
              |(go_at_call 71;(refine (hK.quiet (kP.out _ hK.blk hK.rd)).mono ?_;clear hK;rintro e w' ⟨rfl,hK⟩))
              |(go_at_call 94;(refine (hK.quiet (kS.out _ hK.blk hK.rd)).mono ?_;clear hK;rintro e w' ⟨rfl,hK⟩))
              |((with_reducible refine wt 32 ?_)
                (refine wl_ixK hK rfl rfl rfl rfl intTy.und intTy.size (h:=?_);intro b32 k32 hat32))
              |((with_reducible refine wt 59 ?_)
                (refine wl_ixK hK rfl rfl rfl rfl rowTy.und rowTy.size (h:=?_);intro b59 k59 hat59))
              |((with_reducible refine tx 7 hK ?_);clear hK;intro w' hK)
              |((with_reducible refine tx 9 hK ?_);clear hK;intro w' hK)
              |go_big_skip
              |((with_reducible refine wl ?_);refine ld ?_)
              |(with_reducible refine en ?_))
             go_ret
             exact .inl ⟨by rw [HE.out];decide,by rw [HE.out];rfl,(hK.sub (.cons _ (List.Sublist.refl _))).turns⟩
           · have e5:decide (0<=q)=true:=decide_eq_true hq0
             have e6:decide (1<=(row.l.length:Int))=true:=decide_eq_true hl
             have e7:decide (1<=row.l.length)=true:=decide_eq_true (by omega)
             have e8:decide (0<row.l.length)=true:=decide_eq_true (by omega)
             go_enter Tryz.func70,Tryz.ntmps70
             go_wp2_with (first
              |((with_reducible refine wb 5 ?_)
                (refine wl_boxK hK rfl rfl rfl rfl ?_;clear hK;intro w5 b5 hK))
              |(go_at_call 92;(refine (hK.quiet (kA.out _ (fun r hr=>hK.get (List.mem_append_left _ (List.mem_cons_of_mem _ hr))))).mono ?_;clear hK;rintro e w' ⟨rfl,hK⟩))
              |go_big_skip
              |(go_at_call 71;(refine (hK.quiet (kP.out _ hK.blk hK.rd)).mono ?_;clear hK;rintro e w' ⟨rfl,hK⟩))
              |(go_at_call 94;(refine (hK.quiet (kS.out _ hK.blk hK.rd)).mono ?_;clear hK;rintro e w' ⟨rfl,hK⟩))
              |((with_reducible refine wt 32 ?_)
                (refine wl_ixK hK rfl rfl rfl rfl intTy.und intTy.size (h:=?_);intro b32 k32 hat32))
              |((with_reducible refine wt 59 ?_)
                (refine wl_ixK hK rfl rfl rfl rfl rowTy.und rowTy.size (h:=?_);intro b59 k59 hat59))
              |((with_reducible refine tx 7 hK ?_);clear hK;intro w' hK)
              |((with_reducible refine tx 9 hK ?_);clear hK;intro w' hK)
              |go_big_skip
              |((with_reducible refine wl ?_);refine ld ?_)
              |(with_reducible refine en ?_))
             go_ret
             exact .inl ⟨by rw [HE.out];decide,by rw [HE.out];rfl,(hK.sub (.cons _ (List.Sublist.refl _))).turns⟩
         · rw [if_neg hr] at hEd
           have HE:=Lib.hid hEd
           have hlen:row.l.length<=8:=by
            rcases hw with ⟨_,_,hl⟩|⟨_,hl⟩<;>omega
           have HF:=Lib.hid (show ∀ row':Sv Int,row'.l=row.l++[v]->(s.rows.set m row').map (·.l)=gridL s.A c.w (putF f x (f x++[v])) from fun row' hr'=>by
            have hi:=(openB_iff.1 h2).1
            rw [List.map_set,h.rows,hr',gridL_set (by have:=(nums_iff.1 h.may.nums).w;omega) h.A hi h7,hx]
            rfl)
           have HRR:=Lib.hid (show (s.rows.map rowRes)[m]?=some (rOw 3 elInt row.val row.l) by rw [List.getElem?_map,h3];rfl)
           have HQ:=Lib.hid h
           have HV:=Lib.hid hv
           have HX:=Lib.hid hx
           clear hr hEd hpp ht hq hx h1 h2 h3 h4 hg hu hv hok hH h7
           simp only [rSt,StV.lv] at hK
           rcases hw with ⟨hq0,rfl,hl⟩|⟨hq0,hl⟩
           · have e5:decide (0<=q)=false:=decide_eq_false (by omega)
             have e6:decide (c.height<=(row.l.length:Int))=false:=decide_eq_false (by omega)
             go_enter Tryz.func70,Tryz.ntmps70
             go_wp2_with (first
              |((with_reducible refine wb 5 ?_)
                (refine wl_boxK hK rfl rfl rfl rfl ?_;clear hK;intro w5 b5 hK))
              |(go_at_call 92;(refine (hK.quiet (kA.out _ (fun r hr=>hK.get (List.mem_append_left _ (List.mem_cons_of_mem _ hr))))).mono ?_;clear hK;rintro e w' ⟨rfl,hK⟩))
              |go_big_skip
              |(go_at_call 71;(refine (hK.quiet (kP.out _ hK.blk hK.rd)).mono ?_;clear hK;rintro e w' ⟨rfl,hK⟩))
              |(go_at_call 94;(refine (hK.quiet (kS.out _ hK.blk hK.rd)).mono ?_;clear hK;rintro e w' ⟨rfl,hK⟩))
              |((with_reducible refine wt 83 ?_);(refine wl_buildK 3 elInt [v] hK rfl rfl (fun W=>by kernel_rfl) rfl (by decide) ?_;clear hK;intro adb w83 hK))
              |((with_reducible refine wt 84 ?_)
                (refine wl_appK (xs:=row.l) (ys:=[v]) hK intTy rfl rfl rfl rfl hK.rd (by simp;unfold maxLen;omega) (by simp;omega) (h:=?_);clear hK;intro ad2 N2 cap2 w84 hN2 hK;subst hN2;simp only [z0,z1] at hK))
              |((with_reducible refine wt 85 ?_);(refine wl_ixO hK rfl rfl rfl rfl rowTy.und rowTy.size (hu:=HR) (h:=?_);intro b85 k85 hat85 hsp85))
              |((with_reducible refine wt 91 ?_);(refine wl_ixO hK rfl rfl rfl rfl intTy.und intTy.size (hu:=HU) (h:=?_);intro b91 k91 hat91 hsp91))
              |((with_reducible refine wl_at (o:=⟨none,.store 53 _ _,_,_,_,_⟩) ?_);(refine wl_storeE (⟨ad2,row.l++[v],cap2⟩:Sv Int) hK rfl rfl rfl rfl (sizT (by decide)) hsp85 (hlt:=h6) (hv:=.inr ⟨rfl,rfl⟩) (h:=?_);clear hK;intro w' hK;simp only [z0,z1] at hK))
              |((with_reducible refine wl_at (o:=⟨none,.store 3 _ _,_,_,_,_⟩) ?_);(refine wl_storeE (0:Int) hK rfl rfl rfl rfl (sizT (by decide)) hsp91 (hlt:=by omega) (hv:=.inr ⟨rfl,rfl⟩) (h:=?_);clear hK;intro w' hK;simp only [z0,z1] at hK))
              |((with_reducible refine wt 32 ?_)
                (refine wl_ixK hK rfl rfl rfl rfl intTy.und intTy.size (h:=?_);intro b32 k32 hat32))
              |((with_reducible refine wt 59 ?_)
                (refine wl_ixK hK rfl rfl rfl rfl rowTy.und rowTy.size (h:=?_);intro b59 k59 hat59))
              |((with_reducible refine wt 74 ?_)
                (refine wl_ixK hK rfl rfl rfl rfl rowTy.und rowTy.size (h:=?_);intro b74 k74 hat74))
              |((with_reducible refine wt 81 ?_)
                (refine wl_ixK hK rfl rfl rfl rfl intTy.und intTy.size (h:=?_);intro b81 k81 hat81))
              |((with_reducible refine tx 7 hK ?_);clear hK;intro w' hK)
              |((with_reducible refine tx 9 hK ?_);clear hK;intro w' hK)
              |((with_reducible refine wp_region_stableK (id:=13) (Know.pickAt (hK.pull (.tail .head)) HRR.out) [3] [rBlk s.p (stCells c s) 124] (by kernel_rfl) (by kernel_rfl) (by simp) (by kernel_rfl) ?_);clear hK;intro w' hK)
              |(with_reducible refine wpC_of ?_)
              |(with_reducible refine atEndC (hK.cls (by simp)) ?_)
              |((with_reducible refine wpC_end' ?_);refine wpC_nil ⟨by kernel_rfl,stays_loadK rfl rfl rfl rfl (scalT (by decide)) rfl (rest:=stays_nil),?_⟩)
              |go_big_skip
              |((with_reducible refine wl ?_);refine ld ?_)
              |(with_reducible refine en ?_))
             go_ret
             refine .inr ⟨HE.out,⟨s.p,s.b,s.cap,s.ad,s.rad,s.rcap,s.rows.set m ⟨ad2,row.l++[v],cap2⟩,s.lad,s.ln,s.lcap,s.loads.set k 0,s.A⟩,rfl,⟨HQ.out.may,HQ.out.A,?_,?_,by simpa using HQ.out.robots⟩,rfl,by rw [Int.toNat_natCast],?_⟩
             · rw [Int.toNat_natCast,<-HV.out]
               exact HF.out _ rfl
             · intro y
               unfold putF
               split
               · rw [List.length_append,HX.out];simp only [List.length_cons,List.length_nil];omega
               · exact HQ.out.short y
             · have hK2:=(((hK.sub (.cons _ (List.Sublist.refl _))).putAt (by rw [List.length_map];exact h6)).sub (.cons_cons _ (.cons _ (List.Sublist.refl _)))).turns
               have hK3:Turns (rMany ((s.rows.map rowRes).set m (rowRes ⟨ad2,row.l++[v],cap2⟩))::_) w w' S:=hK2
               rw [<-List.map_set] at hK3
               exact hK3
           · have e5:decide (0<=q)=true:=decide_eq_true hq0
             have e6:decide (1<=(row.l.length:Int))=false:=decide_eq_false (by omega)
             have e7:decide (1<=row.l.length)=false:=decide_eq_false (by omega)
             have e8:decide (0<row.l.length)=false:=decide_eq_false (by omega)
             go_enter Tryz.func70,Tryz.ntmps70
             go_wp2_with (first
              |((with_reducible refine wb 5 ?_)
                (refine wl_boxK hK rfl rfl rfl rfl ?_;clear hK;intro w5 b5 hK))
              |(go_at_call 92;(refine (hK.quiet (kA.out _ (fun r hr=>hK.get (List.mem_append_left _ (List.mem_cons_of_mem _ hr))))).mono ?_;clear hK;rintro e w' ⟨rfl,hK⟩))
              |go_big_skip
              |(go_at_call 71;(refine (hK.quiet (kP.out _ hK.blk hK.rd)).mono ?_;clear hK;rintro e w' ⟨rfl,hK⟩))
              |(go_at_call 94;(refine (hK.quiet (kS.out _ hK.blk hK.rd)).mono ?_;clear hK;rintro e w' ⟨rfl,hK⟩))
              |((with_reducible refine wt 83 ?_);(refine wl_buildK 3 elInt [v] hK rfl rfl (fun W=>by kernel_rfl) rfl (by decide) ?_;clear hK;intro adb w83 hK))
              |((with_reducible refine wt 84 ?_)
                (refine wl_appK (xs:=row.l) (ys:=[v]) hK intTy rfl rfl rfl rfl hK.rd (by simp;unfold maxLen;omega) (by simp;omega) (h:=?_);clear hK;intro ad2 N2 cap2 w84 hN2 hK;subst hN2;simp only [z0,z1] at hK))
              |((with_reducible refine wt 85 ?_);(refine wl_ixO hK rfl rfl rfl rfl rowTy.und rowTy.size (hu:=HR) (h:=?_);intro b85 k85 hat85 hsp85))
              |((with_reducible refine wt 91 ?_);(refine wl_ixO hK rfl rfl rfl rfl intTy.und intTy.size (hu:=HU) (h:=?_);intro b91 k91 hat91 hsp91))
              |((with_reducible refine wl_at (o:=⟨none,.store 53 _ _,_,_,_,_⟩) ?_);(refine wl_storeE (⟨ad2,row.l++[v],cap2⟩:Sv Int) hK rfl rfl rfl rfl (sizT (by decide)) hsp85 (hlt:=h6) (hv:=.inr ⟨rfl,rfl⟩) (h:=?_);clear hK;intro w' hK;simp only [z0,z1] at hK))
              |((with_reducible refine wl_at (o:=⟨none,.store 3 _ _,_,_,_,_⟩) ?_);(refine wl_storeE (0:Int) hK rfl rfl rfl rfl (sizT (by decide)) hsp91 (hlt:=by omega) (hv:=.inr ⟨rfl,rfl⟩) (h:=?_);clear hK;intro w' hK;simp only [z0,z1] at hK))
              |((with_reducible refine wt 32 ?_)
                (refine wl_ixK hK rfl rfl rfl rfl intTy.und intTy.size (h:=?_);intro b32 k32 hat32))
              |((with_reducible refine wt 59 ?_)
                (refine wl_ixK hK rfl rfl rfl rfl rowTy.und rowTy.size (h:=?_);intro b59 k59 hat59))
              |((with_reducible refine wt 74 ?_)
                (refine wl_ixK hK rfl rfl rfl rfl rowTy.und rowTy.size (h:=?_);intro b74 k74 hat74))
              |((with_reducible refine wt 81 ?_)
                (refine wl_ixK hK rfl rfl rfl rfl intTy.und intTy.size (h:=?_);intro b81 k81 hat81))
              |((with_reducible refine tx 7 hK ?_);clear hK;intro w' hK)
              |((with_reducible refine tx 9 hK ?_);clear hK;intro w' hK)
              |((with_reducible refine wp_region_stableK (id:=13) (Know.pickAt (hK.pull (.tail .head)) HRR.out) [3] [rBlk s.p (stCells c s) 124] (by kernel_rfl) (by kernel_rfl) (by simp) (by kernel_rfl) ?_);clear hK;intro w' hK)
              |(with_reducible refine wpC_of ?_)
              |(with_reducible refine atEndC (hK.cls (by simp)) ?_)
              |((with_reducible refine wpC_end' ?_);refine wpC_nil ⟨by kernel_rfl,stays_loadK rfl rfl rfl rfl (scalT (by decide)) rfl (rest:=stays_nil),?_⟩)
              |go_big_skip
              |((with_reducible refine wl ?_);refine ld ?_)
              |(with_reducible refine en ?_))
             go_ret
             refine .inr ⟨HE.out,⟨s.p,s.b,s.cap,s.ad,s.rad,s.rcap,s.rows.set m ⟨ad2,row.l++[v],cap2⟩,s.lad,s.ln,s.lcap,s.loads.set k 0,s.A⟩,rfl,⟨HQ.out.may,HQ.out.A,?_,?_,by simpa using HQ.out.robots⟩,rfl,by rw [Int.toNat_natCast],?_⟩
             · rw [Int.toNat_natCast,<-HV.out]
               exact HF.out _ rfl
             · intro y
               unfold putF
               split
               · rw [List.length_append,HX.out];simp only [List.length_cons,List.length_nil];omega
               · exact HQ.out.short y
             · have hK2:=(((hK.sub (.cons _ (List.Sublist.refl _))).putAt (by rw [List.length_map];exact h6)).sub (.cons_cons _ (.cons _ (List.Sublist.refl _)))).turns
               have hK3:Turns (rMany ((s.rows.map rowRes).set m (rowRes ⟨ad2,row.l++[v],cap2⟩))::_) w w' S:=hK2
               rw [<-List.map_set] at hK3
               exact hK3
     · have hE:dropE c f s.loads k x=1:=by unfold dropE;rw [if_neg (by omega)]
       have e1:decide (s.ln<=k)=true:=decide_eq_true (by omega)
       have e2:decide ((s.ln:Int)<=(k:Int))=true:=decide_eq_true (by omega)
       have HE:=Lib.hid hE
       clear h1 h2 h3 h4 hE hg hln
       simp only [rSt,StV.lv] at hK
       go_enter Tryz.func70,Tryz.ntmps70
       go_wp2_with (first
        |((with_reducible refine wb 5 ?_)
          (refine wl_boxK hK rfl rfl rfl rfl ?_;clear hK;intro w5 b5 hK))
        |(go_at_call 92;(refine (hK.quiet (kA.out _ (fun r hr=>hK.get (List.mem_append_left _ (List.mem_cons_of_mem _ hr))))).mono ?_;clear hK;rintro e w' ⟨rfl,hK⟩))
        |go_big_skip
        |go_big_skip
        |((with_reducible refine wl ?_);refine ld ?_)
        |(with_reducible refine en ?_))
       go_ret
       exact .inl ⟨by rw [HE.out];decide,by rw [HE.out];rfl,(hK.sub (.cons _ (List.Sublist.refl _))).turns⟩
end Go.Proofs.YtngeeilkpnihmaaGreatDoor
