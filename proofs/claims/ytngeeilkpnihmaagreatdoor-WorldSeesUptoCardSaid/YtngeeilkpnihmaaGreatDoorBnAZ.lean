/- Texts of mine that belong together: Srt, Bn1, Bn2. -/
import Derived.Shelf.Sort.Plain
import Derived.Test.YtngeeilkpnihmaaGreatDoorProg
import Derived.Test.YtngeeilkpnihmaaGreatDoorStBZ
import Derived.Test.YtngeeilkpnihmaaGreatDoorStCZ
import Derived.Test.YtngeeilkpnihmaaGreatDoorFlZ
import Derived.Sort.OwnSorted
set_option linter.all false
namespace Go.Proofs
open Go.Shelf
def Tryz.lays189_ren:Go.Shelf.Ren:=⟨fun|189=>64|125=>88|257=>87|128=>117|129=>118|294=>108|295=>109|296=>110|297=>111|298=>112|299=>113|216=>114|300=>115|301=>116|328=>131|329=>132|330=>133|331=>134|332=>135|215=>136|343=>150|n=>n,fun|28=>53|3=>3|46=>169|0=>0|51=>153|53=>192|4=>4|183=>184|182=>183|131=>188|5=>5|9=>9|218=>203|222=>207|228=>216|229=>197|n=>n,fun|n=>n⟩
theorem Tryz.lays189:Go.Proofs.Lays.n189 Tryz.prog Tryz.lays189_ren:={
 mixed:=by kernel_rfl
 f125:=Tryz.func88.trans (congrArg some (by kernel_rfl))
 f128:=Tryz.func117.trans (congrArg some (by kernel_rfl))
 f129:=Tryz.func118.trans (congrArg some (by kernel_rfl))
 f189:=Tryz.func64.trans (congrArg some (by kernel_rfl))
 f215:=Tryz.func136.trans (congrArg some (by kernel_rfl))
 f216:=Tryz.func114.trans (congrArg some (by kernel_rfl))
 f257:=Tryz.func87.trans (congrArg some (by kernel_rfl))
 f294:=Tryz.func108.trans (congrArg some (by kernel_rfl))
 f295:=Tryz.func109.trans (congrArg some (by kernel_rfl))
 f296:=Tryz.func110.trans (congrArg some (by kernel_rfl))
 f297:=Tryz.func111.trans (congrArg some (by kernel_rfl))
 f298:=Tryz.func112.trans (congrArg some (by kernel_rfl))
 f299:=Tryz.func113.trans (congrArg some (by kernel_rfl))
 f300:=Tryz.func115.trans (congrArg some (by kernel_rfl))
 f301:=Tryz.func116.trans (congrArg some (by kernel_rfl))
 f328:=Tryz.func131.trans (congrArg some (by kernel_rfl))
 f329:=Tryz.func132.trans (congrArg some (by kernel_rfl))
 f330:=Tryz.func133.trans (congrArg some (by kernel_rfl))
 f331:=Tryz.func134.trans (congrArg some (by kernel_rfl))
 f332:=Tryz.func135.trans (congrArg some (by kernel_rfl))
 f343:=Tryz.func150.trans (congrArg some (by kernel_rfl))
 t0:=Tryz.underlying0
 a0:=Tryz.isAgg0
 z0:=Tryz.sizeOf0
 v0:=Tryz.zeroValue0
 t3:=Tryz.underlying3
 a3:=Tryz.isAgg3
 z3:=Tryz.sizeOf3
 v3:=Tryz.zeroValue3
 t4:=Tryz.underlying4
 a4:=Tryz.isAgg4
 z4:=Tryz.sizeOf4
 v4:=Tryz.zeroValue4
 t5:=Tryz.underlying5
 a5:=Tryz.isAgg5
 z5:=Tryz.sizeOf5
 v5:=Tryz.zeroValue5
 t9:=Tryz.underlying9
 a9:=Tryz.isAgg9
 z9:=Tryz.sizeOf9
 v9:=Tryz.zeroValue9
 t28:=Tryz.underlying53
 a28:=Tryz.isAgg53
 z28:=Tryz.sizeOf53
 v28:=Tryz.zeroValue53
 t46:=Tryz.underlying169
 a46:=Tryz.isAgg169
 z46:=Tryz.sizeOf169
 v46:=Tryz.zeroValue169
 t51:=Tryz.underlying153
 a51:=Tryz.isAgg153
 z51:=Tryz.sizeOf153
 v51:=Tryz.zeroValue153
 t53:=Tryz.underlying192
 a53:=Tryz.isAgg192
 z53:=Tryz.sizeOf192
 v53:=Tryz.zeroValue192
 t131:=Tryz.underlying188
 a131:=Tryz.isAgg188
 z131:=Tryz.sizeOf188
 v131:=Tryz.zeroValue188
 t182:=Tryz.underlying183
 a182:=Tryz.isAgg183
 z182:=Tryz.sizeOf183
 v182:=Tryz.zeroValue183
 t183:=Tryz.underlying184
 a183:=Tryz.isAgg184
 z183:=Tryz.sizeOf184
 v183:=Tryz.zeroValue184
 t218:=Tryz.underlying203
 a218:=Tryz.isAgg203
 z218:=Tryz.sizeOf203
 v218:=Tryz.zeroValue203
 t222:=Tryz.underlying207
 a222:=Tryz.isAgg207
 z222:=Tryz.sizeOf207
 v222:=Tryz.zeroValue207
 t228:=Tryz.underlying216
 a228:=Tryz.isAgg216
 z228:=Tryz.sizeOf216
 v228:=Tryz.zeroValue216
 t229:=Tryz.underlying197
 a229:=Tryz.isAgg197
 z229:=Tryz.sizeOf197
 v229:=Tryz.zeroValue197}
open Go.Sort Go.RowKit in
theorem Tryz.slices_Sort_int (blk off cap:Nat) (zs:List Int) (w:World) (hH:Holds (Value.int .i64) w blk off zs.toArray) (hblk:blk<w.heap.size) (hsz:zs.length<4611686018427387904):
 Calls Tryz.prog 64 #[.slice (some ⟨blk,off,none⟩) zs.length cap] w fun e w'=>
  e=.returned (.tuple #[])/\ ∃ n os,w'=grow (putRow (Value.int .i64) (Sort.ahead w n) blk off (zs.mergeSort fun x y=>decide (x<=y)).toArray) os:=Any.slices_Sort_int Tryz.lays189 blk off cap zs w hH hblk hsz
end Go.Proofs
namespace Go.Proofs.YtngeeilkpnihmaaGreatDoor
open Go Go.Sk Go.RowKit
set_option maxRecDepth 100000
abbrev encI:Int->Value:=Value.int .i64
theorem holds_int {w:World} {g:Nat} {cur:Array Value} {e:TypeId} {ss:List Int} (hb:w.heap[g]?=some (.cells cur e (0,0))) (ht:cur.toList.take ss.length=ss.map encI):Go.Sort.Holds encI w g 0 ss.toArray:=by
 intro j hj
 have hj':j<ss.length:=by simpa using hj
 refine ⟨?_,by simp [World.frozen?,hb]⟩
 have h1:(cur.toList.take ss.length)[j]?=(ss.map encI)[j]?:=by rw [ht]
 rw [List.getElem?_take_of_lt hj'] at h1
 simp only [World.cell?,hb,Nat.zero_add]
 simp only [Option.isSome_none,Bool.false_eq_true,if_false]
 rw [<-Array.getElem?_toList,h1]
 simp [hj']
theorem heap_sorted_int {w:World} {g n:Nat} {os:Array Obj} {cur:Array Value} {e:TypeId} {fr:Nat×Nat} (d:Array Int) (hb:w.heap[g]?=some (.cells cur e fr)):
 (Go.Sort.grow (Go.Sort.putRow encI (Go.Sort.ahead w n) g 0 d) os).heap[g]?=some (.cells (Go.Sort.putCells encI 0 d cur) e fr):=by
 have hg:g<w.heap.size:=(Array.getElem?_eq_some_iff.1 hb).1
 rw [Go.Sort.heap_grow_old _ _ (by simpa using hg)]
 simp [Go.Sort.putRow,Go.Sort.mapBlock,Go.Sort.ahead,Array.getElem?_modify,hb,Go.Sort.onCells]
theorem mod_sorted_int {w:World} {g n:Nat} {os:Array Obj} (d:Array Int):Mod (only g) w (Go.Sort.grow (Go.Sort.putRow encI (Go.Sort.ahead w n) g 0 d) os):=by
 refine ⟨rfl,rfl,rfl,by simp,fun k hk hne=>?_⟩
 rw [Go.Sort.heap_grow_old _ _ (by simpa using hk)]
 have:g≠k:=fun e=>hne e.symm
 simp [Go.Sort.putRow,Go.Sort.mapBlock,Go.Sort.ahead,Array.getElem?_modify,this]
theorem take_put_int (cur:Array Value) (ts:List Int) (h:ts.length<=cur.size):(Go.Sort.putCells encI 0 ts.toArray cur).toList.take ts.length=ts.map encI:=by
 apply List.ext_getElem?
 intro j
 by_cases hj:j<ts.length
 · rw [List.getElem?_take_of_lt hj,Array.getElem?_toList]
   simp [Go.Sort.putCells,hj,show j<cur.size by omega]
 · rw [List.getElem?_take_eq_none (by omega),List.getElem?_eq_none (by simp;omega)]
theorem flat_int (l:List Int):flat elInt.cells l=l.map encI:=by
 unfold flat
 induction l with
 |nil=>rfl
 |cons x l ih=>rw [List.flatMap_cons,ih];rfl
def sortI (l:List Int):List Int:=l.mergeSort fun x y=>decide (x<=y)
theorem sortI_len (l:List Int):(sortI l).length=l.length:=by unfold sortI;simp
theorem len_zero {w:World}:Calls Tryz.prog 88 #[.int .u64 0] w fun e w'=>e=.returned (.int .i64 0)/\w'=w:=
 calls_of_every_depth fun D=>AnyS.bits_LenIn ({Tryz.lays189 with}:Lays.n125 Tryz.prog Tryz.lays189_ren) D 0 w (by decide) (by decide)
set_option maxHeartbeats 1000000 in
theorem ins_zero {w:World}:Calls Tryz.prog 108 #[.slice none 0 0,.int .i64 0,.int .i64 0] w (Ret (.tuple #[]) w):=by
 have hK:Know w w none' [] []:=Know.start w (by simp)
 go_enter Tryz.func108,Tryz.ntmps108
 go_wp2_with (first
  |go_big_skip
  |((with_reducible refine wl ?_);refine ld ?_)
  |(with_reducible refine en ?_))
 go_loopg [6] 1 (fun k i wr=>i=.int .i64 1/\Know w wr none' [] [])
 case atStart=>exact ⟨rfl,hK⟩
 case round=>
  obtain ⟨rfl,hK⟩:=hrel
  go_wp2_with (first
   |go_big_skip
   |((with_reducible refine wl ?_);refine ld ?_)
   |(with_reducible refine en ?_))
  first|(refine bodyPost_ret (results_none rfl _ _ _) rfl ?_)|(refine bodyPost_end (results_none rfl _ _ _) rfl ?_)
  exact ⟨rfl,hK.mod⟩
set_option maxHeartbeats 1000000 in
theorem pdq_zero {w:World} {n:Int}:Calls Tryz.prog 87 #[.slice none 0 0,.int .i64 0,.int .i64 0,.int .i64 n] w (Ret (.tuple #[]) w):=by
 have hK:Know w w none' [] []:=Know.start w (by simp)
 go_enter Tryz.func87,Tryz.ntmps87
 go_wp2_with (first
  |go_big_skip
  |((with_reducible refine wl ?_);refine ld ?_)
  |(with_reducible refine en ?_))
 go_loopg [1,2] 1 (fun k a b wr=>a=.int .i64 0/\b=.int .i64 0/\Know w wr none' [] [])
 case atStart=>exact ⟨rfl,rfl,hK⟩
 case round=>
  obtain ⟨rfl,rfl,hK⟩:=hrel
  go_wp2_with (first
   |(go_at_call 108;(refine (hK.quiet (ins_zero)).mono ?_;clear hK;rintro e w' ⟨rfl,hK⟩))
   |go_big_skip
   |((with_reducible refine wl ?_);refine ld ?_)
   |(with_reducible refine en ?_))
  first|(refine bodyPost_ret (results_none rfl _ _ _) rfl ?_)|(refine bodyPost_end (results_none rfl _ _ _) rfl ?_)
  exact ⟨rfl,hK.mod⟩
set_option maxHeartbeats 1000000 in
theorem sort_nil {w:World}:Calls Tryz.prog 64 #[.slice none 0 0] w (Ret (.tuple #[]) w):=by
 have hK:Know w w none' [] []:=Know.start w (by simp)
 go_enter Tryz.func64,Tryz.ntmps64
 go_wp2_with (first
  |(go_at_call 88;(refine (hK.quiet (len_zero.mono (fun e w' h=>⟨h.1,by rw [h.2];exact Mod.refl _ _⟩))).mono ?_;clear hK;rintro e w' ⟨rfl,hK⟩))
  |(go_at_call 87;(refine (hK.quiet (pdq_zero)).mono ?_;clear hK;rintro e w' ⟨rfl,hK⟩))
  |go_big_skip
  |((with_reducible refine wl ?_);refine ld ?_)
  |(with_reducible refine en ?_))
 first|(refine bodyPost_ret (results_none rfl _ _ _) rfl ?_)|(refine bodyPost_end (results_none rfl _ _ _) rfl ?_)
 exact ⟨rfl,hK.mod⟩
theorem k_sort {w:World} {S:Nat->Prop} {ad:Option Addr} {n cap:Nat} {l:List Int} (hlen:l.length<=1048576) (h:(rOw 3 elInt (.slice ad n cap) l).p w S):Calls Tryz.prog 64 #[.slice ad n cap] w fun e w'=>
 e=.returned (.tuple #[])/\Turn (rOw 3 elInt (.slice ad n cap) (sortI l)) w w' S:=by
 obtain ⟨hO,rfl⟩:=rOw_p.1 h
 have hn:=hO.rd.n
 subst hn
 have hO2:=hO
 obtain ⟨h1,h2⟩:=hO2
 rcases h2 with ⟨h2,h3⟩|⟨g,cap',cur,h2,h3,h4,h5,h6,h7,h8⟩
 · injection h2 with e1 e2 e3
   subst e1 e3
   have hl:l=[]:=List.eq_nil_of_length_eq_zero e2
   subst hl
   refine sort_nil.mono ?_
   rintro e w' ⟨rfl,m⟩
   refine ⟨rfl,m.mono fun _ h=>h.elim,_,rOw_p.2 ⟨?_,rfl⟩,fun b hb=>.inl hb⟩
   have e0:sortI []=[]:=List.eq_nil_of_length_eq_zero (by rw [sortI_len];rfl)
   rw [e0]
   exact hO.mod m fun _ _ h=>h
 · injection h2 with e1 e2 e3
   subst e1 e3
   have ht:cur.toList.take l.length=l.map encI:=by rw [<-flat_int,<-h8];simp
   refine (Any.slices_Sort_int Tryz.lays189 g 0 cap l w (holds_int h4 ht) (Array.getElem?_eq_some_iff.1 h4).1 (by omega)).mono ?_
   rintro e w' ⟨rfl,nn,os,rfl⟩
   refine ⟨rfl,(mod_sorted_int _).mono fun b hb=>by cases hb;rfl,_,rOw_p.2 ⟨?_,rfl⟩,fun b hb=>.inl hb⟩
   have hsl:=sortI_len l
   have hcur:cur.size=cap*1:=h7
   show Own _ _ 1 _ (sortI l).length (flat elInt.cells (sortI l))
   rw [hsl,flat_int]
   refine ⟨by rw [List.length_map,hsl];omega,.inr ⟨g,cap,_,rfl,Nat.zero_le _,heap_sorted_int _ h4,h5,h6,by simp [Go.Sort.putCells,hcur],?_⟩⟩
   rw [Nat.mul_one,<-hsl]
   exact take_put_int cur (sortI l) (by rw [hsl];omega)
end Go.Proofs.YtngeeilkpnihmaaGreatDoor
namespace Go.Proofs.YtngeeilkpnihmaaGreatDoor
open Go Go.Sk Go.RowKit
set_option maxRecDepth 100000
def SM.raw (c:ConfP) (m:SM):List Int:=(m.told c).flatMap (·.bins)++m.ld.filter fun b=>b !=0
def SM.bins (c:ConfP) (m:SM):List Int:=sortI (m.raw c)
theorem flat_told {c:ConfP} {f:Cell->List Int} (hc: ∀ x,openB c x=false->f x=[]): ∀ n,((List.range n).map fun k=>f (cellAt c.w k)).flatten=(toldTo c f n).flatMap (·.bins)
 |0=>rfl
 |n+1=>by
  rw [List.range_succ,List.map_append,List.flatten_append,flat_told hc n,toldTo_succ,List.flatMap_append]
  congr 1
  unfold tellOne
  split
  · simp
  · rename_i h
    simp [hc _ (by simpa using h)]
theorem raw_len {c:ConfP} {m:SM} (h:SMOk c m):(m.raw c).length<=270000:=by
 unfold SM.raw
 rw [List.length_append]
 have h1: ∀ l:List StackP,(∀ s∈l,s.bins.length<=1024)->(l.flatMap (·.bins)).length<=l.length*1024:=by
  intro l
  induction l with
  |nil=>simp
  |cons s l ih=>
   intro hs
   rw [List.flatMap_cons,List.length_append,List.length_cons,Nat.succ_mul]
   have:=ih fun s hs'=>hs s (by simp [hs'])
   have:=hs s (by simp)
   omega
 have h2:=h1 (m.told c) fun s hs=>by rw [(told_open s hs).2];exact h.short _
 have h3:=told_len (m:=m) h.may
 have h4:=List.length_filter_le (fun b=>b !=0) m.ld
 have h5:=h.n8
 have h6:(m.told c).length*1024<=256*1024:=Nat.mul_le_mul_right _ h3
 omega
set_option maxHeartbeats 4000000 in
theorem k_bins {c:ConfP} {p:Nat} {m:SM} {w:World} (h:Has w (rSTK c p m)):Calls Tryz.prog 35 #[.pointer (some ⟨p,0,none⟩)] w fun e w'=>
 ∃ ad n cap,e=.returned (.slice ad n cap)/\Turn (rOw 3 elInt (.slice ad n cap) (m.bins c)) w w' none':=by
 obtain ⟨s,rfl,h2,h3,h4,h5⟩:=Has.stk h
 have hK:Know w w none' [] (rSt c s):=Know.start (L:=rSt c s) w h5
 have hlen:s.rows.length=s.A:=by have:=congrArg List.length h3.rows;rw [List.length_map,gridL_len] at this;exact this
 have hA:areaOf c=s.A:=by
  have h1:=(area_eq h3.may).1
  have h2:=h3.A
  rw [h1] at h2
  exact Int.ofNat.inj h2
 have hA256:s.A<=256:=by rw [<-hA];exact (area_eq h3.may).2
 have hall:(s.rows.map (·.l)).flatten=(m.told c).flatMap (·.bins):=by
  rw [h3.rows]
  unfold SM.told
  rw [hA]
  exact flat_told h4.closed s.A
 have hrsh: ∀ r∈s.rows,r.l.length<=1024:=fun r hr=>by
  obtain ⟨k,hk⟩:=List.mem_iff_getElem?.1 hr
  have hkA:k<s.A:=by rw [<-hlen];exact (List.getElem?_eq_some_iff.1 hk).1
  have:=gridL_at (f:=m.f) (w:=c.w) hkA
  rw [<-h3.rows,List.getElem?_map,hk] at this
  injection this with this
  have e:r.l=m.f (cellAt c.w k):=this
  rw [e];exact h4.short _
 have hraw:=raw_len h4
 have HALL:=Lib.hid hall
 have HSH:=Lib.hid hrsh
 have HL:=Lib.hid hlen
 have HLD:=Lib.hid h2
 have hln:s.ln=s.loads.length:=(StAt.has h5).loads.n
 have hl8:s.loads.length<=8:=h3.robots
 have HRAW:=Lib.hid hraw
 clear h hall hrsh hlen hA h2 h3 h4 hraw
 simp only [rSt,StV.lv] at hK
 replace hK:=hK.nil 3 elInt
 go_enter Tryz.func35,Tryz.ntmps35
 go_wp2_with (first
  |go_big_skip
  |((with_reducible refine wl ?_);refine ld ?_)
  |(with_reducible refine en ?_))
 go_loopg [15,3,5] s.A (fun k i v3 _ wr=> ∃ (j:Nat) (acc:List Int) (ad:Option Addr) (N cap:Nat),i=.int .i64 j/\k=s.A - j/\j<=s.A/\v3=.slice ad N cap/\Hid (acc=((s.rows.take j).map (·.l)).flatten)/\acc.length<=j*1024/\
  Know w wr none' [rOw 3 elInt (.slice ad N cap) acc] [rMany (s.rows.map rowRes),rBlk s.p (stCells c s) 124,rOw 3 elInt (.slice s.lad s.ln s.lcap) s.loads,rOw 53 elSv (.slice s.rad s.A s.rcap) s.rows,
   rBlk s.b [.int .i64 c.w,.int .i64 c.h,.slice s.ad s.A s.cap] 148,rOw 3 elInt (.slice s.ad s.A s.cap) (gridL s.A c.w (kind2 c (homes c)))])
 case atStart=>exact ⟨0,[],none,0,0,rfl,by omega,Nat.zero_le _,rfl,rfl,by simp,hK⟩
 case round=>
  obtain ⟨j,acc,ad,N,cap,rfl,rfl,hj,rfl,hacc,hal,hK⟩:=hrel
  by_cases hlt:j<s.A
  · obtain ⟨row,hr⟩: ∃ row,s.rows[j]?=some row:=⟨_,List.getElem?_eq_getElem (by rw [HL.out];exact hlt)⟩
    have HR:=Lib.hid hr
    have hrd:=(row_has (c:=c) (s:=s) (fun r hr=>hK.has hr) (List.mem_of_getElem? hr)).rd
    have hsh:=HSH.out row (List.mem_of_getElem? hr)
    have hj1:j*1024<=255*1024:=Nat.mul_le_mul_right _ (by omega)
    have HT:=Lib.hid (show acc++row.l=((s.rows.take (j+1)).map (·.l)).flatten by rw [List.take_add_one,hr,hacc.out];simp)
    clear hr
    go_wp2_with (first
     |((with_reducible refine wt 17 ?_)
       (refine wl_ixK hK rfl rfl rfl rfl rowTy.und rowTy.size (h:=?_);intro b17 k17 hat17))
     |((with_reducible refine wt 21 ?_)
       (refine wl_appK (xs:=acc) (ys:=row.l) hK intTy rfl rfl rfl rfl hrd (by unfold maxLen;omega) (by omega) (h:=?_);clear hK;intro ad2 N2 cap2 w21 hN2 hK;have HN2:=Lib.hid hN2;clear hN2;simp only [z0,z1] at hK))
     |go_big_skip
     |((with_reducible refine wl ?_);refine ld ?_)
     |(with_reducible refine en ?_))
    go_roundg (s.A - (j+1))
    case measure=>omega
    case rel=>exact ⟨j+1,acc++row.l,ad2,N2,cap2,by go_num,rfl,by omega,rfl,HT,by rw [List.length_append,Nat.succ_mul];omega,hK⟩
  · obtain rfl:j=s.A:=by omega
    have hacc2:Hid (acc=(m.told c).flatMap (·.bins)):=by
     show _=_
     rw [hacc.out,<-HALL.out,List.take_of_length_le (by rw [HL.out];exact Nat.le_refl _)]
    have hb1:acc.length<=262144:=by
     have:s.A*1024<=256*1024:=Nat.mul_le_mul_right _ hA256
     omega
    clear hacc hal hlt
    go_wp2_with (first
     |go_big_skip
     |((with_reducible refine wl ?_);refine ld ?_)
     |(with_reducible refine en ?_))
    go_loopg [28,3,7] s.loads.length (fun k i v3 _ wr=> ∃ (j:Nat) (ac:List Int) (ad:Option Addr) (N cap:Nat),i=.int .i64 j/\k=s.loads.length - j/\j<=s.loads.length/\v3=.slice ad N cap/\Hid (ac=acc++(s.loads.take j).filter fun b=>b !=0)/\ac.length<=acc.length+j/\
     Know w wr none' [rOw 3 elInt (.slice ad N cap) ac] [rMany (s.rows.map rowRes),rBlk s.p (stCells c s) 124,rOw 3 elInt (.slice s.lad s.ln s.lcap) s.loads,rOw 53 elSv (.slice s.rad s.A s.rcap) s.rows,
      rBlk s.b [.int .i64 c.w,.int .i64 c.h,.slice s.ad s.A s.cap] 148,rOw 3 elInt (.slice s.ad s.A s.cap) (gridL s.A c.w (kind2 c (homes c)))])
    case atStart=>exact ⟨0,acc,ad,N,cap,rfl,by omega,Nat.zero_le _,rfl,(by show _=_;simp),by omega,hK⟩
    case round=>
     clear hK ad N cap
     obtain ⟨j,ac,ad,N,cap,rfl,rfl,hj,rfl,hac,hal,hK⟩:=hrel
     by_cases hlt:j<s.loads.length
     · obtain ⟨v,hv⟩: ∃ v,s.loads[j]?=some v:=⟨_,List.getElem?_eq_getElem hlt⟩
       have HV:=Lib.hid hv
       have hjl:j<s.ln:=by omega
       by_cases hv0:v=0
       · have HT:=Lib.hid (show ac=acc++(s.loads.take (j+1)).filter (fun b=>b !=0) by rw [hac.out,List.take_add_one,hv,List.filter_append];simp [hv0])
         have e1:(v !=0)=false:=by simp [hv0]
         subst hv0
         clear hv
         go_wp2_with (first
          |((with_reducible refine wt 30 ?_)
            (refine wl_ixK hK rfl rfl rfl rfl intTy.und intTy.size (h:=?_);intro b30 k30 hat30))
          |go_big_skip
          |((with_reducible refine wl ?_);refine ld ?_)
          |(with_reducible refine en ?_))
         go_roundg (s.loads.length - (j+1))
         case measure=>omega
         case rel=>exact ⟨j+1,ac,ad,N,cap,by go_num,rfl,by omega,rfl,HT,by omega,hK⟩
       · have HT:=Lib.hid (show ac++[v]=acc++(s.loads.take (j+1)).filter (fun b=>b !=0) by rw [hac.out,List.take_add_one,hv,List.filter_append];simp [hv0])
         have e1:(v !=0)=true:=bne_iff_ne.2 hv0
         have e2:decide (v=0)=false:=decide_eq_false hv0
         clear hv hv0
         go_wp2_with (first
          |((with_reducible refine wt 30 ?_)
            (refine wl_ixK hK rfl rfl rfl rfl intTy.und intTy.size (h:=?_);intro b30 k30 hat30))
          |((with_reducible refine wt 36 ?_);(refine wl_buildK 3 elInt [v] hK rfl rfl (fun W=>by kernel_rfl) rfl (by decide) ?_;clear hK;intro adb w36 hK))
          |((with_reducible refine wt 37 ?_)
            (refine wl_appK (xs:=ac) (ys:=[v]) hK intTy rfl rfl rfl rfl hK.rd (by simp;unfold maxLen;omega) (by simp;omega) (h:=?_);clear hK;intro ad2 N2 cap2 w37 hN2 hK;have HN2:=Lib.hid hN2;clear hN2;simp only [z0,z1] at hK))
          |go_big_skip
          |((with_reducible refine wl ?_);refine ld ?_)
          |(with_reducible refine en ?_))
         go_roundg (s.loads.length - (j+1))
         case measure=>omega
         case rel=>exact ⟨j+1,ac++[v],ad2,N2,cap2,by go_num,rfl,by omega,rfl,HT,by rw [List.length_append];simp only [List.length_cons,List.length_nil];omega,hK.sub (.cons _ (List.Sublist.refl _))⟩
     · obtain rfl:j=s.loads.length:=by omega
       have hraw2:=Lib.hid (show ac=m.raw c by
        rw [hac.out,hacc2.out,List.take_length,HLD.out]
        rfl)
       have hsz:ac.length<=1048576:=by rw [hraw2.out];have:=HRAW.out;omega
       have hjl: ¬ s.loads.length<s.ln:=by omega
       clear hac hal
       go_wp2_with (first
        |(go_at_call 64;(refine (hK.callsJ (by repeat (first|exact Ix.head|apply Ix.tail)) (fun S hS=>k_sort hsz hS)).mono ?_;clear hK;rintro e w' ⟨rfl,hK⟩;simp only [z0,z1] at hK))
        |go_big_skip
        |((with_reducible refine wl ?_);refine ld ?_)
        |(with_reducible refine en ?_))
       go_ret
       refine ⟨ad,N,cap,rfl,?_⟩
       rw [hraw2.out] at hK
       exact hK.turn
end Go.Proofs.YtngeeilkpnihmaaGreatDoor
