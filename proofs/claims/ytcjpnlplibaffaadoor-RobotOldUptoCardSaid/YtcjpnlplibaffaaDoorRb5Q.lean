/- Robots: the laws' config, awake, RobotDeaf, RobotOld. -/
import Derived.Test.YtcjpnlplibaffaaDoorRb4Q
import Derived.Test.YtcjpnlplibaffaaDoorComQ
set_option linter.all false
namespace Go.Proofs.YtcjpnlplibaffaaDoor
open Go Go.Sk Go.RowKit
set_option maxRecDepth 100000

theorem moveEq : eqTy Tryd.prog 38 moveKs = true := by kernel_rfl
theorem poseEq : eqTy Tryd.prog 36 Go.Sk.poseKs = true := by kernel_rfl
theorem teleEq : eqTy Tryd.prog 40 teleKs = true := by kernel_rfl
section
variable {P : Program} {ops : Array Oper} {Q : Exit → Act → World → Prop} {o : Oper} {rest : List Oper} {a : Act} {w : World}
theorem wl_eqlM {t yt : TypeId} {x y : Operand} (c d : Go.Sk.Move) (ht : eqTy P t moveKs = true) (ho : o.op = .binOp .eql t x y yt) (hw : Region.wanted o (yielded ops a.tmps) = true) (hx : a.eval x = .agg c.cells.toArray) (hy : a.eval y = .agg d.cells.toArray)
    (h : wpList P ops Q rest (a.put o.dst (.bool (decide (c = d)))) w) : wpList P ops Q (o :: rest) a w :=
  wl_eqlS ho hw hx hy ht c.ks d.ks (by rw [Move.eq]; exact h)
theorem wl_neqM {t yt : TypeId} {x y : Operand} (c d : Go.Sk.Move) (ht : eqTy P t moveKs = true) (ho : o.op = .binOp .neq t x y yt) (hw : Region.wanted o (yielded ops a.tmps) = true) (hx : a.eval x = .agg c.cells.toArray) (hy : a.eval y = .agg d.cells.toArray)
    (h : wpList P ops Q rest (a.put o.dst (.bool (!decide (c = d)))) w) : wpList P ops Q (o :: rest) a w :=
  wl_neqS ho hw hx hy ht c.ks d.ks (by rw [Move.eq]; exact h)
theorem wl_eqlP {t yt : TypeId} {x y : Operand} (c d : Pose) (ht : eqTy P t Go.Sk.poseKs = true) (ho : o.op = .binOp .eql t x y yt) (hw : Region.wanted o (yielded ops a.tmps) = true) (hx : a.eval x = .agg c.cells.toArray) (hy : a.eval y = .agg d.cells.toArray)
    (h : wpList P ops Q rest (a.put o.dst (.bool (decide (c = d)))) w) : wpList P ops Q (o :: rest) a w :=
  wl_eqlS ho hw hx hy ht c.ks d.ks (by rw [Pose.eq]; exact h)
theorem wl_neqP {t yt : TypeId} {x y : Operand} (c d : Pose) (ht : eqTy P t Go.Sk.poseKs = true) (ho : o.op = .binOp .neq t x y yt) (hw : Region.wanted o (yielded ops a.tmps) = true) (hx : a.eval x = .agg c.cells.toArray) (hy : a.eval y = .agg d.cells.toArray)
    (h : wpList P ops Q rest (a.put o.dst (.bool (!decide (c = d)))) w) : wpList P ops Q (o :: rest) a w :=
  wl_neqS ho hw hx hy ht c.ks d.ks (by rw [Pose.eq]; exact h)
end

theorem ofk_tele : ∀ cs, ofKinds teleKs cs = true → ∃ x, cs = elTele.cells x := by
  intro cs h
  match cs, h with
  | [.int .i64 a, .int .i64 b, .int .i64 c, .int .i64 d, .int .i64 e, .int .i64 f, .int .i64 g, .int .i64 h1, .int .i64 h2, .bool h3, .int .i64 i1, .int .i64 i2, .bool i3, .int .i64 j, .int .i64 k, .int .i64 p1, .int .i64 p2, .bool p3, .int .i64 q], _ =>
    exact ⟨⟨a, b, c, d, ⟨e, f, g, ⟨⟨h1, h2⟩, h3⟩, ⟨⟨i1, i2⟩, i3⟩, j, k⟩, ⟨⟨p1, p2⟩, p3⟩, q⟩, rfl⟩
/-- Nothing under way: still. -/
theorem rb_tick_none {c : ConfP} {i : Int} {p : Nat} {r : RM} {w : World} (h : Has w (rROB c i p r)) (hu : r.under = none) : Calls Tryd.prog 13 #[.pointer (some ⟨p, 0, none⟩)] w (Ret (.tuple #[.agg mvZ.cells.toArray, .int .i64 0]) w) := by
  obtain ⟨gp, kp, up, hK⟩ := Has.robK h
  clear h
  obtain ⟨pose, load, epoch, num, under, stopping, delay⟩ := r
  simp only at hu
  subst hu
  simp only [rRb, rbCells, underV, underRes] at hK
  go_enter Tryd.func13, Tryd.ntmps13
  go_wp2_with (first
    | ((with_reducible refine wl_at (o := ⟨some 2, .alloc _, _, _, _, _⟩) ?_)
       go_must (refine wl_allocK (z := .agg (moveZ).toArray) (zs := moveZ) hK rfl rfl (by kernel_rfl) rfl ?_; clear hK; intro w2 b2 hK))
    | ((with_reducible refine wl_at (o := ⟨none, .store 38 _ _, _, _, _, _⟩) ?_)
       go_must (refine wl_storeWK (vs := Go.Sk.Move.cells mvZ) hK rfl rfl rfl rfl (aggS (by decide)) (move_one _) (h := ?_); clear hK; intro w' hK; simp only [List.set_cons_zero, List.set_cons_succ] at hK))
    | go_big_skip
    | go_big_skip
    | ((with_reducible refine wl_at (o := ⟨_, .load _ _, _, _, _, _⟩) ?_)
       first
         | refine wl_loadK hK rfl rfl rfl (scalT (by decide)) (h := ?_)
         | refine wl_loadSK hK rfl rfl rfl (aggT (by decide)) (h := ?_)
         | refine wl_loadA0 rfl rfl rfl (scalT (by decide)) (h := ?_)
         | refine wl_loadA rfl rfl rfl (scalT (by decide)) (h := ?_)
         | refine wl_loadSA rfl rfl rfl (aggT (by decide)) (h := ?_))
    | (with_reducible refine atEnd_mk (by kernel_rfl) ?_))
  exact bodyPost_ret (res_cellS_tmp rfl _ rfl (aggT (by decide)) rfl (hK.blk (b := b2) (cs := Go.Sk.Move.cells mvZ)).at0) rfl ⟨rfl, hK.mod⟩

/-! the laws' config -/
def rcV (r : Option Addr) : ConfV := ⟨4, 1, 1, ⟨none, [], 0⟩, ⟨none, [], 0⟩, ⟨r, [poseO], 1⟩, ⟨none, [], 0⟩, 10, 2, 4, 2, 3, 1, 1, 1, false⟩
def rcP : ConfP := ⟨4, 1, 1, [], [], [poseO], [], 10, 2, 4, 2, 3, 1, 1, 1, false⟩
theorem rc_may : MayP rcP where
  nums := by decide +kernel
  ports8 := by decide
  robots8 := by decide
  inside := by decide
  apart := by decide
  beside := by decide +kernel
  fits := by decide +kernel
  homes1 := by decide +kernel
  clear := by decide +kernel
  stacked := by decide +kernel
  stacks1 := by decide
  bins := by decide +kernel
  bins1 := by decide +kernel
  bins512 := by decide
theorem rc_has {r : Option Addr} {w : World} (h1 : Has w (rOw 36 elPose (.slice r 1 1) [poseO])) : Has w (rConf (rcV r)) := by
  refine Has.all.2 fun x hx => ?_
  simp only [List.mem_cons, List.not_mem_nil, or_false] at hx
  rcases hx with rfl | rfl | rfl | rfl
  · exact (Rd.nil w elCell).has
  · exact (Rd.nil w elCell).has
  · exact h1.ord.has
  · refine Has.two.2 ⟨(Rd.nil w elStack).has, Has.all.2 fun x hx => ?_⟩
    obtain ⟨y, hy, rfl⟩ := List.mem_map.1 hx
    cases hy
theorem rc_sized (r : Option Addr) : Sized (rcV r) := ⟨by simp [rcV], by simp [rcV], by simp [rcV], by simp [rcV], fun x hx => by simp [rcV] at hx⟩
theorem rc_wf (r : Option Addr) : ∀ p ∈ (rcV r).robots.l, PoseWf p := by
  intro x hx
  simp only [rcV, List.mem_singleton] at hx
  subst hx
  exact ⟨by decide, by decide⟩
def confZ18 : List Value := [.int .i64 0, .int .i64 0, .int .i64 0, .slice none 0 0, .slice none 0 0, .slice none 0 0, .slice none 0 0, .int .i64 0, .int .i64 0, .int .i64 0, .int .i64 0, .int .i64 0, .int .i64 0, .int .i64 0, .int .i64 0, .bool false]
theorem conf18_one (r : Option Addr) : ∀ v ∈ (rcV r).cells, v.oneCell' = true := by
  intro v hv
  simp only [ConfV.cells, List.mem_cons, List.not_mem_nil, or_false] at hv
  rcases hv with rfl | rfl | rfl | rfl | rfl | rfl | rfl | rfl | rfl | rfl | rfl | rfl | rfl | rfl | rfl | rfl <;> rfl
set_option maxHeartbeats 1000000 in
theorem conf_calls {w : World} : Calls Tryd.prog 7 #[] w fun e w' => ∃ ad, e = .returned (.agg (rcV ad).cells.toArray) ∧ Turn (rOw 36 elPose (.slice ad 1 1) [poseO]) w w' none' := by
  have hK : Know w w none' [] [] := Know.start (L := []) w (by simp)
  go_enter Tryd.func7, Tryd.ntmps7
  go_wp2_with (first
    | ((with_reducible refine wl_at (o := ⟨some 0, .alloc _, _, _, _, _⟩) ?_)
       go_must (refine wl_allocK (z := .agg (confZ18).toArray) (zs := confZ18) hK rfl rfl (by kernel_rfl) rfl ?_; clear hK; intro w0 b0 hK))
    | ((with_reducible refine wl_at (o := ⟨some 2, _, _, _, _, _⟩) ?_); go_must (refine wl_buildK 36 elPose [poseO] hK rfl rfl (fun W => by kernel_rfl) rfl (by decide) ?_; clear hK; intro ad w2 hK))
    | ((with_reducible refine wl_at (o := ⟨none, .store 31 _ _, _, _, _, _⟩) ?_)
       go_must (refine wl_storeWK (vs := ConfV.cells (rcV ad)) hK rfl rfl rfl rfl (aggS (by decide)) (conf18_one _) (h := ?_); clear hK; intro w' hK; simp only [List.set_cons_zero, List.set_cons_succ] at hK))
    | go_big_skip
    | go_big_skip
    | ((with_reducible refine wl_at (o := ⟨_, .load _ _, _, _, _, _⟩) ?_)
       first
         | refine wl_loadK hK rfl rfl rfl (scalT (by decide)) (h := ?_)
         | refine wl_loadSK hK rfl rfl rfl (aggT (by decide)) (h := ?_)
         | refine wl_loadA0 rfl rfl rfl (scalT (by decide)) (h := ?_)
         | refine wl_loadA rfl rfl rfl (scalT (by decide)) (h := ?_)
         | refine wl_loadSA rfl rfl rfl (aggT (by decide)) (h := ?_))
    | (with_reducible refine atEnd_mk (by kernel_rfl) ?_))
  exact bodyPost_ret (res_cellS rfl _ rfl (aggT (by decide)) rfl (hK.blk (b := b0) (cs := (rcV ad).cells)).at0) rfl ⟨ad, rfl, (hK.sub (.cons_cons _ (.cons _ .slnil))).turn⟩
theorem rc_new {r : Option Addr} {w : World} (h1 : Has w (rOw 36 elPose (.slice r 1 1) [poseO])) (hst : Has w stepsR) : Calls Tryd.prog 6 #[.agg (rcV r).cells.toArray, .int .i64 0] w fun e w' =>
    ∃ p, e = .returned (.tuple #[.pointer (some ⟨p, 0, none⟩), .int .i64 0]) ∧ Turn (rROB rcP 0 p (RM.start poseO)) w w' none' := by
  refine (rb_new (c := rcV r) (i := 0) (rc_has h1) hst (rc_sized r) (rc_wf r)).mono ?_
  rintro e w' (⟨h, _⟩ | ⟨_, h, _⟩ | ⟨_, _, p, u, hu, rfl, hT⟩)
  · exact absurd rc_may h
  · exact absurd ⟨by decide, by show (0 : Int) < 1; decide⟩ h
  · have : poseO = u := by simpa [rcV] using hu
    subst this
    exact ⟨p, rfl, hT⟩
/-- A call that turns one thing, the first, and brings another one. -/
theorem Know.callsT {P : Program} {f : FuncId} {args : Array Value} {w0 w : World} {F : Nat → Prop} {M L : List Res} {r r' : Res} {X : Option Addr → Res} {V : Option Addr → Value} (h : Know w0 w F (r :: M) L)
    (hc : ∀ S, Know w w S [r] [] → Calls P f args w fun e w' => ∃ ad, e = .returned (V ad) ∧ Turns [X ad, r'] w w' S) : Calls P f args w fun e w' => ∃ ad, e = .returned (V ad) ∧ Know w0 w' F (X ad :: r' :: M) L := by
  obtain ⟨S1, hKS, back⟩ := Know.focus (R := [r]) (M := M) h
  refine (hc S1 (hKS.subL (by simp))).mono ?_
  rintro e w' ⟨ad, rfl, hT⟩
  exact ⟨ad, rfl, back _ _ hT⟩
def rc1 : RM := { RM.start poseO with epoch := 1, num := 0 }

theorem awk_stop {p : Nat} {w0 w : World} {F : Nat → Prop} {M L : List Res} (h : Know w0 w F (rROB rcP 0 p (RM.start poseO) :: M) L) : Calls Tryd.prog 8 #[.pointer (some ⟨p, 0, none⟩), .agg (Tele.cells ⟨2, 0, 1, 0, mvZ, poseO, 0⟩).toArray] w fun e w' =>
    ∃ ad, e = .returned (.tuple #[.slice ad 1 1, .int .i64 3]) ∧ Know w0 w' F (rOw 40 elTele (.slice ad 1 1) [rc1.tell 0] :: rROB rcP 0 p rc1 :: M) L :=
  Know.callsT h (V := fun ad => .tuple #[.slice ad 1 1, .int .i64 3]) (X := fun ad => rOw 40 elTele (.slice ad 1 1) [rc1.tell 0]) (r' := rROB rcP 0 p rc1) (fun S hS => rb_hear_stand (t := ⟨2, 0, 1, 0, mvZ, poseO, 0⟩) (e := 1) hS rfl rfl rfl rfl (by decide) (by decide))
theorem awk_old {p : Nat} {w : World} (h : Has w (rROB rcP 0 p rc1)) : Calls Tryd.prog 8 #[.pointer (some ⟨p, 0, none⟩), .agg (Tele.cells ⟨1, 0, 0, 1, mvZ, poseO, 0⟩).toArray] w (Ret (.tuple #[.slice none 0 0, .int .i64 2]) w) :=
  rb_hear_old (r := rc1) (t := ⟨1, 0, 0, 1, mvZ, poseO, 0⟩) h rfl rfl (by decide)

set_option maxHeartbeats 2000000 in
theorem awake_calls {w : World} (hst : Has w stepsR) : Calls Tryd.prog 11 #[] w (Ret (.bool true) w) := by
  have hK : Know w w none' [] [stepsR] := Know.start (L := [stepsR]) w (by simpa using hst)
  have HU0 : Hid ([rc1.tell 0][0]? = some (⟨4, 0, 1, 0, mvZ, poseO, 0⟩ : Tele)) := by show _ = _; rfl
  clear hst
  go_enter Tryd.func11, Tryd.ntmps11
  go_wp2_with (first
    | (go_at_call 7; go_must (refine conf_calls.mono ?_; rintro e w' ⟨adc, rfl, hT⟩; replace hK := hK.push1 hT; clear hT))
    | (go_at_call 6; go_must (refine (rc_new hK.own hK.lent).mono ?_; rintro e w' ⟨p, rfl, hT⟩; replace hK := hK.push1 hT; clear hT))
    | (go_at_call 8; first
        | (have hck := (show Know _ _ _ (rROB rcP 0 p (RM.start poseO) :: _) _ from hK); clear hck; refine (awk_stop hK).mono ?_; clear hK; rintro e w' ⟨adt, rfl, hK⟩)
        | (refine (hK.quiet (awk_old hK.own)).mono ?_; clear hK; rintro e w' ⟨rfl, hK⟩))
    | ((with_reducible refine wl_at (o := ⟨some 35, _, _, _, _, _⟩) ?_); go_must (refine wl_ixK (i := 0) (xs := [rc1.tell 0]) (u := (⟨4, 0, 1, 0, mvZ, poseO, 0⟩ : Tele)) hK rfl rfl rfl rfl teleTy.und teleTy.size (hu := HU0) (h := ?_); intro b35 k35 hat35))
    | (go_at_call 10; go_must (refine (hK.quiet (rb_epoch (r := rc1) hK.own)).mono ?_; clear hK; rintro e w' ⟨rfl, hK⟩))
    | go_big_skip
    | go_big_skip
    | ((with_reducible refine wl_at (o := ⟨_, .load _ _, _, _, _, _⟩) ?_)
       first
         | refine wl_loadK hK rfl rfl rfl (scalT (by decide)) (h := ?_)
         | refine wl_loadSK hK rfl rfl rfl (aggT (by decide)) (h := ?_)
         | refine wl_loadA0 rfl rfl rfl (scalT (by decide)) (h := ?_)
         | refine wl_loadA rfl rfl rfl (scalT (by decide)) (h := ?_)
         | refine wl_loadSA rfl rfl rfl (aggT (by decide)) (h := ?_))
    | (with_reducible refine atEnd_mk (by kernel_rfl) ?_))
  go_ret
  exact ⟨rfl, hK.mod⟩
end Go.Proofs.YtcjpnlplibaffaaDoor
