/-
  WorldSees: whatever comes in, of bulk at most 1048576 together: the call returns true and everything that was there stays as it was. The table of steps is as the program's text lays it (the card ties it).
-/
import Derived.Test.YtngeeilkpnihmaaGreatDoorCards
import Derived.Test.YtngeeilkpnihmaaGreatDoorTie
import Derived.Test.YtngeeilkpnihmaaGreatDoorOpZ
import Derived.Test.YtngeeilkpnihmaaGreatDoorDwHZ
import Derived.WalkKit
import Derived.ProofKit
import Derived.OpenShut
import Derived.Deep.DeepHandedRow
import Derived.Lib.LaidTab
set_option linter.all false
namespace Go.Proofs.YtngeeilkpnihmaaGreatDoor.worldSees
open Go Go.Sk Go.ChangeShapes Go.WideShapes Go.ChangeAt Go.RowKit
set_option maxRecDepth 100000
theorem own:ownKnob Tryz.prog.godebug=none:=by kernel_rfl
theorem laid_met (os:Os):laidMet Tryz.prog Rows.worldSeesUptoRow.laid ((laidWorld os).forCall (fun _ _=>0) ⟨#[],#[zeroConf,.slice none 0 0],[]⟩).memory:=
 laidMet_of_run' 8 (by kernel_rfl) (by kernel_rfl)
theorem reads (os:Os) {H:Type} (enc:TypeId×Value->H): ∃ places,DataW.whole enc Tryz.prog ((laidWorld os).forCall (fun _ _=>0) ⟨#[],#[zeroConf,.slice none 0 0],[]⟩).memory Tryz.f3.params.toList Rows.worldSeesSpec.vars false (#[zeroConf,.slice none 0 0]:Array Value).toList 8=some ([.agg [.lit (.int .i64 0),.lit (.int .i64 0),.lit (.int .i64 0),.nil,.nil,.nil,.nil,.lit (.int .i64 0),.lit (.int .i64 0),.lit (.int .i64 0),.lit (.int .i64 0),.lit (.int .i64 0),.lit (.int .i64 0),.lit (.int .i64 0),.lit (.int .i64 0),.lit (.bool false)],.nil],[],places):=
 ⟨[],by kernel_rfl⟩
theorem contract (H:Type) (enc:TypeId×Value->H) (W:World) (base:Nat) (args:Array Value) (ds gs:List (DataW H)) (before:List MemPlace)
 (hval: ∀ (j:Nat) t v,Tryz.f3.params[j]?=some t->args[j]?=some v->Value.okWide Tryz.prog W .any base t v)
 (hW:DataW.Whole enc Tryz.prog Tryz.f3.params.toList Rows.worldSeesSpec.vars false W args.toList ds gs before) (hk:Rows.uptoSmall H (ds++gs)=true) (hL:laidMetH Tryz.prog Rows.worldSeesUptoRow.laid W):
 Calls Tryz.prog 3 args W fun e W'=> ∃ v,e=.returned v/\Rows.worldSeesSpec.post enc Tryz.prog Tryz.f3 false true false false W args v W':=by
 have hst:=steps_of_laid hL
 have hW':=hW
 obtain ⟨p,q,hA0,hV,rfl,hfz,hnd⟩:=hW
 have hA:DataW.TrodAll enc Tryz.prog W 0 (fun _=>true) true Tryz.f3.params.toList args.toList ds p:=hA0
 obtain ⟨rfl,rfl⟩:=trodVars_none hV
 have hbulk:=bulk_small hk
 rw [List.append_nil] at hbulk
 rw [Tryz.params3] at hA hval
 obtain ⟨v0,vs0,d0,ds0,p0,q0,hargs,rfl,rfl,h0,r0⟩:=trodAll_cons hA
 obtain ⟨v1,vs1,d1,ds1,p1,q1,rfl,rfl,rfl,h1,r1⟩:=trodAll_cons r0
 obtain ⟨rfl,rfl,rfl⟩:=trodAll_nil r1
 obtain rfl:args= #[v0,v1]:=by cases args;simp_all
 have hb0:(bulkOf H).b d0<=1048576:=Nat.le_trans (bulk_part (by simp)) hbulk
 have hb1:(bulkOf H).b d1<=1048576:=Nat.le_trans (bulk_part (by simp)) hbulk
 obtain ⟨c0,rfl,hc0,hwf0,hu0⟩:=open_confA (hval 0 26 v0 rfl rfl) h0
 obtain ⟨l1,hl1,hn1,ho1⟩:=open_listB (bulkOf H) (E:=elOp19) (R:=fun a _=> ∀ u∈El.cells elOp19 a,okNum u) (fun _ _ _ h _=>h) (by kernel_rfl) (by decide) (fun n cs x h=>open_plainB op19ElTy n cs x h) Tryz.underlying27 (hval 1 27 v1 rfl rfl) h1
 refine (sees_calls hc0 hst (hu0 hb0) hwf0 hl1 (Nat.le_trans hn1 hb1) ho1).mono fun e W' ⟨he,hm⟩=>?_
 subst he
 exact ⟨_,rfl,law_post (by kernel_rfl) (by kernel_rfl) rfl hW' rfl rfl Tryz.underlying4 hm⟩
theorem lifted (os:Os) (started:os.Started) (H:Type) (enc:TypeId×Value->H) (F:Stop.Interp):
 ReturnsInHanded {} Tryz.checked os 3 .any ((Rows.OpenSpec.upto Rows.worldSeesSpec).preRow enc Tryz.prog Tryz.f3 Rows.worldSeesUptoRow.domain false Rows.worldSeesUptoRow.laid) (((Rows.OpenSpec.upto Rows.worldSeesSpec).at F).post enc Tryz.prog Tryz.f3 false true false false):=by
 obtain ⟨places,hx⟩:=reads os enc
 refine returnsInHanded_of_row (C:=Tryz.checked) (s:=Rows.OpenSpec.upto Rows.worldSeesSpec) own started (by kernel_rfl) Tryz.func3
  (witness_row_at (enc:=enc) (C:=Tryz.checked) false (laidWorld os) #[zeroConf,.slice none 0 0] rfl (by kernel_rfl) (by kernel_rfl) (by kernel_rfl)
    (OpenSpec.preRow_of_cond 8 hx (by kernel_rfl) (fun k hk=>by cases hk;kernel_rfl) (by kernel_rfl) (laid_met os))) ?_
 intro W base args ds gs before hval hW _ hcond _ hL _ _
 exact contract H enc W base args ds gs before hval hW (hcond _ rfl) hL
theorem said:Rows.WorldSeesUptoSaid:=
 OpenClaim.holds_of_cond 3 Tryz.f3 rfl rfl rfl rfl rfl rfl rfl ⟨rfl,rfl,rfl,rfl,rfl⟩ rfl rfl rfl rfl rfl (by kernel_rfl) Tryz.func3 (by kernel_rfl)
  (of_decide_eq_true (by kernel_rfl)) (by unfold Func.isWrapper;first|(rw [if_pos (by decide+kernel)];kernel_rfl)|(rw [if_neg (by decide+kernel)];exact ⟨rfl,rfl⟩))
  (fun os started H enc _ F=>by rw [OpenClaim.pre_eq_preRow];exact lifted os started H enc F)
theorem plain (f:FuncId) (fn:Func) (hf:Tryz.pinned.checked.prog.funcNamed "skep/skeplaw19.WorldSees"=some f) (hfn:Tryz.pinned.checked.prog.funcs[f]?=some fn):
 false=Tryz.pinned.checked.prog.looks []/\ ∀ (j:Nat) t,fn.params[j]?=some t->Tryz.pinned.checked.prog.wantsStandIn t=false:=by
 obtain rfl:f=3:=Option.some.inj ((show Tryz.prog.funcNamed "skep/skeplaw19.WorldSees"=some 3 by kernel_rfl).symm.trans hf)|>.symm
 obtain rfl:fn=Tryz.f3:=(Option.some.inj (Tryz.func3.symm.trans hfn)).symm
 refine ⟨by kernel_rfl,fun j t ht=>?_⟩
 rw [Tryz.params3] at ht
 have hall: ∀ t∈[26,27],Tryz.prog.wantsStandIn t=false:=by
  intro t ht
  have h:([26,27].all fun t=>Tryz.prog.wantsStandIn t == false)=true:=by kernel_rfl
  have:=List.all_eq_true.1 h t ht
  exact eq_of_beq this
 exact hall t (by have:=Array.mem_of_getElem? ht;simpa using this)
theorem proved:Rows.WorldSeesUptoCardSaid:=
 Claim7.holds_tied_plain_at .later [] _ _ _ _ said (fun _ h=>by cases h) (by kernel_rfl) (fun _ h=>by cases h) worldSeesUpto_row_tie rfl ⟨rfl,rfl⟩ (by kernel_rfl) rfl plain (by kernel_rfl)
end Go.Proofs.YtngeeilkpnihmaaGreatDoor.worldSees
