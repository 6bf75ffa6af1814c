/- RobotOnce. -/
import Derived.Test.YtcjpnlplibaffaaDoorRbC
import Derived.Test.YtcjpnlplibaffaaDoorDeQ
set_option linter.all false
namespace Go.Proofs.YtcjpnlplibaffaaDoor
open Go Go.Sk Go.RowKit
set_option maxRecDepth 100000

def opZ18 : List Value := .int .i64 0 :: .int .i64 0 :: teleZ
theorem op18Ty : SliceTy Tryd.prog 53 57 elOp18.sz 168 opZ18 :=
  SliceTy.mk' (z := .agg opZ18.toArray) (by kernel_rfl) (by kernel_rfl) rfl rfl
theorem op18ElTy : ElTy Tryd.prog 57 elOp18 op18Ks := ⟨by kernel_rfl, by kernel_rfl, rfl, by decide, ofk_op18⟩
def poseL (p : Pose) : List Value := [.int .i64 p.at_.x, .int .i64 p.at_.y, .bool p.down]

open Classical in
set_option maxHeartbeats 8000000 in
theorem once_calls {c : ConfV} {sv : Value} {l : List Op18} {w : World} (hc : Has w (rConf c)) (hst : Has w stepsR) (hu : Upto c) (hwf : ∀ p ∈ c.robots.l, PoseWf p) (hs1 : Rd w elOp18 sv l) (hs2 : l.length ≤ 1048576) (hnum : ∀ x ∈ l, ∀ u ∈ El.cells elOp18 x, okNum u) :
    Calls Tryd.prog 5 #[.agg c.cells.toArray, sv] w (Ret (.bool true) w) := by
  have hK : Know w w none' [] [rRd elOp18 sv l, rConf c, stepsR] := Know.start (L := [rRd elOp18 sv l, rConf c, stepsR]) w (by
    intro r hr
    simp only [List.mem_cons, List.not_mem_nil, or_false] at hr
    rcases hr with rfl | rfl | rfl
    · exact hs1.has
    · exact hc
    · exact hst)
  obtain ⟨sa, sc, rfl⟩ := hs1.vee
  clear hc hst hs1
  obtain ⟨sm, hsm⟩ : ∃ sm, decide (smallB c.p) = sm := ⟨_, rfl⟩
  have HS := Lib.hid hsm
  cases sm with
  | false =>
    clear hsm
    go_enter Tryd.func5, Tryd.ntmps5
    go_wp2_with (first
      | ((with_reducible refine wl_at (o := ⟨some 2, .box _ _, _, _, _, _⟩) ?_)
         go_must (refine wl_boxK hK rfl rfl rfl rfl ?_; clear hK; intro w2 b2 hK))
      | (go_at_call 15; go_must (refine (hK.quiet (kn_small HS.out hu hK.lent)).mono ?_; clear hK; rintro e w' ⟨rfl, hK⟩))
      | (go_at_call 11; go_must (refine (hK.quiet (awake_calls hK.lent)).mono ?_; clear hK; rintro e w' ⟨rfl, hK⟩))
      | go_big_skip
      | go_big_skip
      | ((with_reducible refine wl_at (o := ⟨_, .load _ _, _, _, _, _⟩) ?_)
         first
           | refine wl_loadK hK rfl rfl rfl (scalT (by decide)) (h := ?_)
           | refine wl_loadSK hK rfl rfl rfl (aggT (by decide)) (h := ?_)
           | refine wl_loadA0 rfl rfl rfl (scalT (by decide)) (h := ?_)
           | refine wl_loadA rfl rfl rfl (scalT (by decide)) (h := ?_)
           | refine wl_loadSA rfl rfl rfl (aggT (by decide)) (h := ?_))
      | (with_reducible refine atEnd_mk (by kernel_rfl) ?_))
    go_ret
    exact ⟨rfl, hK.mod⟩
  | true =>
    have hm : MayP c.p := (of_decide_eq_true hsm).2.2.2.2.2.2.2
    clear hsm
    by_cases hrl : c.robots.l.length = 0
    · have d0 : ((c.robots.l.length : Int) == 0) = true := by rw [hrl]; rfl
      have d0' : decide ((c.robots.l.length : Int) = 0) = true := by rw [hrl]; rfl
      have HRL := Lib.hid hrl
      clear hrl
      go_enter Tryd.func5, Tryd.ntmps5
      go_wp2_with (first
        | ((with_reducible refine wl_at (o := ⟨some 2, .box _ _, _, _, _, _⟩) ?_)
           go_must (refine wl_boxK hK rfl rfl rfl rfl ?_; clear hK; intro w2 b2 hK))
        | (go_at_call 15; go_must (refine (hK.quiet (kn_small HS.out hu hK.lent)).mono ?_; clear hK; rintro e w' ⟨rfl, hK⟩))
        | (go_at_call 11; go_must (refine (hK.quiet (awake_calls hK.lent)).mono ?_; clear hK; rintro e w' ⟨rfl, hK⟩))
        | go_big_skip
        | go_big_skip
        | ((with_reducible refine wl_at (o := ⟨_, .load _ _, _, _, _, _⟩) ?_)
           first
             | refine wl_loadK hK rfl rfl rfl (scalT (by decide)) (h := ?_)
             | refine wl_loadSK hK rfl rfl rfl (aggT (by decide)) (h := ?_)
             | refine wl_loadA0 rfl rfl rfl (scalT (by decide)) (h := ?_)
             | refine wl_loadA rfl rfl rfl (scalT (by decide)) (h := ?_)
             | refine wl_loadSA rfl rfl rfl (aggT (by decide)) (h := ?_))
        | (with_reducible refine atEnd_mk (by kernel_rfl) ?_))
      go_ret
      exact ⟨rfl, hK.mod⟩
    · obtain ⟨u, hu0⟩ : ∃ u, c.robots.l[0]? = some u := ⟨_, List.getElem?_eq_getElem (by omega)⟩
      have hpw := hwf u (List.mem_of_getElem? hu0)
      have HU := Lib.hid hu0
      have HM := Lib.hid hm
      have HW := Lib.hid hwf
      have d0 : ((c.robots.l.length : Int) == 0) = false := beq_eq_false_iff_ne.2 (by omega)
      have d0' : decide ((c.robots.l.length : Int) = 0) = false := decide_eq_false (by omega)
      have HOK := Lib.hid (RMOk.start (c := c.p) (p := u) ⟨hpw.x, hpw.y⟩)
      have hkin := Lib.hid (kinOf_ok hm)
      clear hm hwf hu0 hrl hpw
      go_enter Tryd.func5, Tryd.ntmps5
      go_wp2_with (first
        | ((with_reducible refine wl_at (o := ⟨some 2, .box _ _, _, _, _, _⟩) ?_)
           go_must (refine wl_boxK hK rfl rfl rfl rfl ?_; clear hK; intro w2 b2 hK))
        | (go_at_call 15; go_must (refine (hK.quiet (kn_small HS.out hu hK.lent)).mono ?_; clear hK; rintro e w' ⟨rfl, hK⟩))
        | (go_at_call 16; go_must (refine (dup_calls (c := c) hK.lent hu).mono ?_; rintro e w' ⟨d, rfl, hd, hT⟩; replace hK := hK.push1 hT; have HD := Lib.hid hd; clear hT hd))
        | (go_at_call 6; go_must (refine (rb_newD HM.out HD.out hu HW.out HU.out hK.own hK.lent).mono ?_; rintro e w' ⟨p, rfl, hT⟩; replace hK := hK.push1 hT; clear hT))
        | go_big_skip
        | go_big_skip
        | ((with_reducible refine wl_at (o := ⟨_, .load _ _, _, _, _, _⟩) ?_)
           first
             | refine wl_loadK hK rfl rfl rfl (scalT (by decide)) (h := ?_)
             | refine wl_loadSK hK rfl rfl rfl (aggT (by decide)) (h := ?_)
             | refine wl_loadA0 rfl rfl rfl (scalT (by decide)) (h := ?_)
             | refine wl_loadA rfl rfl rfl (scalT (by decide)) (h := ?_)
             | refine wl_loadSA rfl rfl rfl (aggT (by decide)) (h := ?_))
        | (with_reducible refine atEnd_mk (by kernel_rfl) ?_))
      replace hK : Know w _ none' [rROB c.p 0 p (RM.start u)] [rRd elOp18 (.slice sa l.length sc) l, rConf c, stepsR] := hK.sub (.cons_cons _ (.cons _ (.cons _ .slnil)))
      go_loopg [4, 7, 8, 9, 10, 11, 12, 13, 14, 15, 16, 17] l.length (fun k _ s7 s8 s9 _ _ _ _ _ _ _ _ wr => ∃ (j : Nat) (r : RM), s9 = .int .i64 j ∧ s7 = .int .i64 r.num ∧ s8 = .int .i64 r.epoch ∧ k = l.length - j ∧ j ≤ l.length ∧ j ≤ 80 ∧ Hid (RMOk c.p r j) ∧
        Know w wr none' [rROB c.p 0 p r] [rRd elOp18 (.slice sa l.length sc) l, rConf c, stepsR])
      case atStart => exact ⟨0, RM.start u, rfl, rfl, rfl, by omega, by omega, by omega, HOK, hK⟩
      case round =>
        clear hK HOK
        obtain ⟨j, r, rfl, rfl, rfl, rfl, hj, hj80, hok, hK⟩ := hrel
        by_cases hlt : j < l.length ∧ j < 80
        · obtain ⟨hlt, hlt2⟩ := hlt
          obtain ⟨x, hx⟩ : ∃ x, l[j]? = some x := ⟨_, List.getElem?_eq_getElem hlt⟩
          have HX := Lib.hid hx
          have hmn := op18_n (hnum x (List.mem_of_getElem? hx))
          have hn0 := hok.out.num.1
          have hn1 := hok.out.num.2
          obtain ⟨q, hq⟩ : ∃ q, x.kind % 8 = q := ⟨_, rfl⟩
          have hq1 : 0 ≤ q ∧ q < 8 := by omega
          obtain ⟨hq2, hq3⟩ := hq1
          have kPl := Lib.hid (fun (W : World) => show Calls Tryd.prog 12 #[.int .i64 x.kind, .int .i64 8] W fun e w' => e = .returned (.int .i64 q) ∧ w' = W from
            (Place_calls x.kind 8 W (by omega) (by omega)).mono fun e w' h => ⟨by rw [h.1, hq], h.2.symm⟩)
          clear hx hq
          by_cases h3 : 3 ≤ q
          · have d3 : decide (3 ≤ q) = true := decide_eq_true h3
            obtain ⟨v, hv⟩ : ∃ v, r.tick = v := ⟨_, rfl⟩
            obtain ⟨hve, hvc⟩ := RMOk.tick_is hok.out hv
            have kT := Lib.hid (fun (W : World) (S : Nat → Prop) (h : (rROB c.p 0 p r).p W S) => rb_tick hok.out (by omega) hv h)
            have HO2 := Lib.hid (show RMOk c.p v.1 (j + 1 : Nat) by have := hok.out.tick; rw [hv] at this; exact this)
            have kP := Lib.hid (fun (W : World) (h : Has W (rROB c.p 0 p v.1)) => rb_pose h)
            have HE := Lib.hid hve
            clear hv h3 hve
            obtain ⟨v1, m, how⟩ := v
            simp only at hvc kT HO2 kP HE
            rcases hvc with ⟨rfl, e2⟩ | ⟨rfl, e2, e3⟩ | ⟨rfl, e2⟩
            · have HN := Lib.hid e2
              clear e2
              go_wp2_with (first
                | ((with_reducible refine wl_at (o := ⟨some 52, _, _, _, _, _⟩) ?_)
                   go_must (refine wl_ixK hK rfl rfl rfl rfl op18Ty.und op18Ty.size (h := ?_); intro b52 k52 hat52))
                | ((with_reducible refine wl_at (o := ⟨some 10, .alloc _, _, _, _, _⟩) ?_)
                   go_must (refine wl_allocK (z := .agg (opZ18).toArray) (zs := opZ18) hK rfl rfl (by kernel_rfl) rfl ?_; clear hK; intro w10 b10 hK))
                | ((with_reducible refine wl_at (o := ⟨none, .store 57 _ _, _, _, _, _⟩) ?_)
                   go_must (refine wl_storeWK (vs := Op18.cells x) hK rfl rfl rfl rfl (aggS (by decide)) (elOp18.one x) (h := ?_); clear hK; intro w' hK; simp only [List.set_cons_zero, List.set_cons_succ] at hK))
                | (go_at_call 12; go_must (refine (hK.quiet ((kPl.out _).mono (fun e w' h => ⟨h.1, by rw [h.2]; exact Mod.refl _ _⟩))).mono ?_; clear hK; rintro e w' ⟨rfl, hK⟩))
                | (go_at_call 13; go_must (refine (hK.callsI (fun S hS => kT.out _ _ hS)).mono ?_; clear hK; rintro e w' ⟨rfl, hK⟩; simp only [List.set_cons_zero, List.set_cons_succ] at hK))
                | ((with_reducible refine wl_at (o := ⟨some 11, .alloc _, _, _, _, _⟩) ?_)
                   go_must (refine wl_allocK (z := .agg (moveZ).toArray) (zs := moveZ) hK rfl rfl (by kernel_rfl) rfl ?_; clear hK; intro w11 b11 hK))
                | ((with_reducible refine wl_at (o := ⟨none, .store 38 _ _, _, _, _, _⟩) ?_)
                   go_must (refine wl_storeWK (vs := Go.Sk.Move.cells m) hK rfl rfl rfl rfl (aggS (by decide)) (move_one _) (h := ?_); clear hK; intro w' hK; simp only [List.set_cons_zero, List.set_cons_succ] at hK))
                | go_big_skip
                | go_big_skip
                | ((with_reducible refine wl_at (o := ⟨_, .load _ _, _, _, _, _⟩) ?_)
                   first
                     | refine wl_loadK hK rfl rfl rfl (scalT (by decide)) (h := ?_)
                     | refine wl_loadSK hK rfl rfl rfl (aggT (by decide)) (h := ?_)
                     | refine wl_loadA0 rfl rfl rfl (scalT (by decide)) (h := ?_)
                     | refine wl_loadA rfl rfl rfl (scalT (by decide)) (h := ?_)
                     | refine wl_loadSA rfl rfl rfl (aggT (by decide)) (h := ?_))
                | (with_reducible refine atEnd_mk (by kernel_rfl) ?_))
              go_roundg (l.length - (j + 1))
              case measure => omega
              case rel => exact ⟨j + 1, v1, by go_num, by rw [HN.out], by rw [HE.out], rfl, by omega, by omega, HO2, hK.sub (.cons _ (.cons _ (List.Sublist.refl _)))⟩
            · have HN := Lib.hid e2
              rw [e3] at kP
              clear e2 e3
              go_wp2_with (first
                | ((with_reducible refine wl_at (o := ⟨some 52, _, _, _, _, _⟩) ?_)
                   go_must (refine wl_ixK hK rfl rfl rfl rfl op18Ty.und op18Ty.size (h := ?_); intro b52 k52 hat52))
                | ((with_reducible refine wl_at (o := ⟨some 10, .alloc _, _, _, _, _⟩) ?_)
                   go_must (refine wl_allocK (z := .agg (opZ18).toArray) (zs := opZ18) hK rfl rfl (by kernel_rfl) rfl ?_; clear hK; intro w10 b10 hK))
                | ((with_reducible refine wl_at (o := ⟨none, .store 57 _ _, _, _, _, _⟩) ?_)
                   go_must (refine wl_storeWK (vs := Op18.cells x) hK rfl rfl rfl rfl (aggS (by decide)) (elOp18.one x) (h := ?_); clear hK; intro w' hK; simp only [List.set_cons_zero, List.set_cons_succ] at hK))
                | (go_at_call 12; go_must (refine (hK.quiet ((kPl.out _).mono (fun e w' h => ⟨h.1, by rw [h.2]; exact Mod.refl _ _⟩))).mono ?_; clear hK; rintro e w' ⟨rfl, hK⟩))
                | (go_at_call 13; go_must (refine (hK.callsI (fun S hS => kT.out _ _ hS)).mono ?_; clear hK; rintro e w' ⟨rfl, hK⟩; simp only [List.set_cons_zero, List.set_cons_succ] at hK))
                | ((with_reducible refine wl_at (o := ⟨some 11, .alloc _, _, _, _, _⟩) ?_)
                   go_must (refine wl_allocK (z := .agg (moveZ).toArray) (zs := moveZ) hK rfl rfl (by kernel_rfl) rfl ?_; clear hK; intro w11 b11 hK))
                | ((with_reducible refine wl_at (o := ⟨none, .store 38 _ _, _, _, _, _⟩) ?_)
                   go_must (refine wl_storeWK (vs := Go.Sk.Move.cells m) hK rfl rfl rfl rfl (aggS (by decide)) (move_one _) (h := ?_); clear hK; intro w' hK; simp only [List.set_cons_zero, List.set_cons_succ] at hK))
                | ((with_reducible refine wl_at (o := ⟨some 70, .load _ _, _, _, _, _⟩) ?_); go_must (refine wl_loadPK (Pose.cells m.dst) hK rfl rfl rfl (aggT (by decide)) (h := ?_)))
                | ((with_reducible refine wp_region_stableK (id := 15) hK [3] [rBlk b11 (Go.Sk.Move.cells m) 38] (by kernel_rfl) (by kernel_rfl) (by simp) (by kernel_rfl) ?_); clear hK; intro w' hK)
                | (with_reducible refine wpC_of ?_)
                | (with_reducible refine atEndC (hK.cls (by simp)) ?_)
                | ((with_reducible refine wpC_end' ?_); refine wpC_nil ⟨by kernel_rfl, stays_loadSP (Pose.cells m.dst) rfl rfl rfl rfl (aggT (by decide)) (rest := stays_nil), ?_⟩)
                | (go_at_call 14; go_must (refine (hK.quiet (kP.out _ hK.own)).mono ?_; clear hK; rintro e w' ⟨rfl, hK⟩))
                | ((with_reducible refine wl_at (o := ⟨some 71, _, _, _, _, _⟩) ?_); go_must (refine wl_neqPs m.dst poseEq rfl rfl rfl rfl ?_))
                | go_big_skip
                | go_big_skip
                | ((with_reducible refine wl_at (o := ⟨_, .load _ _, _, _, _, _⟩) ?_)
                   first
                     | refine wl_loadK hK rfl rfl rfl (scalT (by decide)) (h := ?_)
                     | refine wl_loadSK hK rfl rfl rfl (aggT (by decide)) (h := ?_)
                     | refine wl_loadA0 rfl rfl rfl (scalT (by decide)) (h := ?_)
                     | refine wl_loadA rfl rfl rfl (scalT (by decide)) (h := ?_)
                     | refine wl_loadSA rfl rfl rfl (aggT (by decide)) (h := ?_))
                | (with_reducible refine atEnd_mk (by kernel_rfl) ?_))
              go_roundg (l.length - (j + 1))
              case measure => omega
              case rel => exact ⟨j + 1, v1, by go_num, by rw [HN.out], by rw [HE.out], rfl, by omega, by omega, HO2, hK.sub (.cons _ (.cons _ (List.Sublist.refl _)))⟩
            · have HN := Lib.hid e2
              clear e2
              go_wp2_with (first
                | ((with_reducible refine wl_at (o := ⟨some 52, _, _, _, _, _⟩) ?_)
                   go_must (refine wl_ixK hK rfl rfl rfl rfl op18Ty.und op18Ty.size (h := ?_); intro b52 k52 hat52))
                | ((with_reducible refine wl_at (o := ⟨some 10, .alloc _, _, _, _, _⟩) ?_)
                   go_must (refine wl_allocK (z := .agg (opZ18).toArray) (zs := opZ18) hK rfl rfl (by kernel_rfl) rfl ?_; clear hK; intro w10 b10 hK))
                | ((with_reducible refine wl_at (o := ⟨none, .store 57 _ _, _, _, _, _⟩) ?_)
                   go_must (refine wl_storeWK (vs := Op18.cells x) hK rfl rfl rfl rfl (aggS (by decide)) (elOp18.one x) (h := ?_); clear hK; intro w' hK; simp only [List.set_cons_zero, List.set_cons_succ] at hK))
                | (go_at_call 12; go_must (refine (hK.quiet ((kPl.out _).mono (fun e w' h => ⟨h.1, by rw [h.2]; exact Mod.refl _ _⟩))).mono ?_; clear hK; rintro e w' ⟨rfl, hK⟩))
                | (go_at_call 13; go_must (refine (hK.callsI (fun S hS => kT.out _ _ hS)).mono ?_; clear hK; rintro e w' ⟨rfl, hK⟩; simp only [List.set_cons_zero, List.set_cons_succ] at hK))
                | ((with_reducible refine wl_at (o := ⟨some 11, .alloc _, _, _, _, _⟩) ?_)
                   go_must (refine wl_allocK (z := .agg (moveZ).toArray) (zs := moveZ) hK rfl rfl (by kernel_rfl) rfl ?_; clear hK; intro w11 b11 hK))
                | ((with_reducible refine wl_at (o := ⟨none, .store 38 _ _, _, _, _, _⟩) ?_)
                   go_must (refine wl_storeWK (vs := Go.Sk.Move.cells m) hK rfl rfl rfl rfl (aggS (by decide)) (move_one _) (h := ?_); clear hK; intro w' hK; simp only [List.set_cons_zero, List.set_cons_succ] at hK))
                | go_big_skip
                | go_big_skip
                | ((with_reducible refine wl_at (o := ⟨_, .load _ _, _, _, _, _⟩) ?_)
                   first
                     | refine wl_loadK hK rfl rfl rfl (scalT (by decide)) (h := ?_)
                     | refine wl_loadSK hK rfl rfl rfl (aggT (by decide)) (h := ?_)
                     | refine wl_loadA0 rfl rfl rfl (scalT (by decide)) (h := ?_)
                     | refine wl_loadA rfl rfl rfl (scalT (by decide)) (h := ?_)
                     | refine wl_loadSA rfl rfl rfl (aggT (by decide)) (h := ?_))
                | (with_reducible refine atEnd_mk (by kernel_rfl) ?_))
              go_roundg (l.length - (j + 1))
              case measure => omega
              case rel => exact ⟨j + 1, v1, by go_num, by rw [HN.out], by rw [HE.out], rfl, by omega, by omega, HO2, hK.sub (.cons _ (.cons _ (List.Sublist.refl _)))⟩
          · have d3 : decide (3 ≤ q) = false := decide_eq_false h3
            obtain ⟨v, hv⟩ : ∃ v, r.hear c.p (kinOf c.p) 0 x.t = v := ⟨_, rfl⟩
            obtain ⟨hvp, hvc⟩ := RM.hear_is hv
            have kH := Lib.hid (fun (W : World) (S : Nat → Prop) (h : Know W W S [rROB c.p 0 p r] [stepsR]) => rb_hear hok.out (by omega) hmn hv h)
            have HO2 := Lib.hid (show RMOk c.p v.1 (j + 1 : Nat) by have := hok.out.hear (i := 0) (t := x.t) hkin.out (by omega); rw [hv] at this; exact this)
            have kPr := Lib.hid (fun (W : World) (h : Has W (rROB c.p 0 p r)) => rb_pose h)
            have kNr := Lib.hid (fun (W : World) (h : Has W (rROB c.p 0 p r)) => rb_now h)
            have kPv := Lib.hid (fun (W : World) (h : Has W (rROB c.p 0 p v.1)) => rb_pose h)
            have kEv := Lib.hid (fun (W : World) (h : Has W (rROB c.p 0 p v.1)) => rb_epoch h)
            rw [hvp] at kPv
            clear hv h3 hvp
            obtain ⟨v1, L, how⟩ := v
            simp only at hvc kH HO2 kPv kEv
            rcases hvc with ⟨rfl, hu, k1, k2, k3, k4, k5, hne, hnn⟩ | ⟨rfl, k1, k2, hne, hnn⟩ | ⟨n1, n2, k1, k2, k3, hne, hnn⟩ | ⟨n1, n2, kn, hne, hnn⟩
            · have a1 : (x.t.kind != 1) = false := by simp [k1]
              have a2 : (x.t.epoch != r.epoch) = false := by simp [k2]
              have a3 : (x.t.num != r.num + 1) = false := by simp [k3]
              have a4 : (x.t.robot != 0) = false := by simp [k5]
              have a5 : (x.t.kind == 2) = false := beq_eq_false_iff_ne.2 (by omega)
              have HQ1 := Lib.hid (show (!decide (x.t.move.src = r.pose)) = false by simp [k4])
              rw [hu] at kNr
              simp only [Option.isSome_none] at kNr
              clear k1 k2 k3 k4 k5 hu
              have HN := Lib.hid hnn
              have HE := Lib.hid hne
              rw [hne] at kEv
              clear hnn hne
              go_wp2_with (first
                | ((with_reducible refine wl_at (o := ⟨some 52, _, _, _, _, _⟩) ?_)
                   go_must (refine wl_ixK hK rfl rfl rfl rfl op18Ty.und op18Ty.size (h := ?_); intro b52 k52 hat52))
                | ((with_reducible refine wl_at (o := ⟨some 10, .alloc _, _, _, _, _⟩) ?_)
                   go_must (refine wl_allocK (z := .agg (opZ18).toArray) (zs := opZ18) hK rfl rfl (by kernel_rfl) rfl ?_; clear hK; intro w10 b10 hK))
                | ((with_reducible refine wl_at (o := ⟨none, .store 57 _ _, _, _, _, _⟩) ?_)
                   go_must (refine wl_storeWK (vs := Op18.cells x) hK rfl rfl rfl rfl (aggS (by decide)) (elOp18.one x) (h := ?_); clear hK; intro w' hK; simp only [List.set_cons_zero, List.set_cons_succ] at hK))
                | (go_at_call 12; go_must (refine (hK.quiet ((kPl.out _).mono (fun e w' h => ⟨h.1, by rw [h.2]; exact Mod.refl _ _⟩))).mono ?_; clear hK; rintro e w' ⟨rfl, hK⟩))
                | (go_at_call 14; first
                    | (have hck := (show Know _ _ _ (rBlk _ _ _ :: _) _ from hK); clear hck; refine (hK.quiet (kPr.out _ hK.own)).mono ?_; clear hK; rintro e w' ⟨rfl, hK⟩)
                    | (refine (hK.quiet (kPv.out _ hK.own)).mono ?_; clear hK; rintro e w' ⟨rfl, hK⟩))
                | (go_at_call 9; go_must (refine (hK.quiet (kNr.out _ hK.own)).mono ?_; clear hK; rintro e w' ⟨rfl, hK⟩))
                | (go_at_call 10; go_must (refine (hK.quiet (kEv.out _ hK.own)).mono ?_; clear hK; rintro e w' ⟨rfl, hK⟩))
                | (go_at_call 8; go_must (refine (Know.hears hK (by repeat (first | exact Ix.head | apply Ix.tail)) (by simp) (fun S hS => kH.out _ S hS)).mono ?_; clear hK; rintro e w' ⟨adt, cpt, rfl, hK⟩; simp only [List.set_cons_zero, List.set_cons_succ] at hK))
                | ((with_reducible refine wl_at (o := ⟨some 13, .alloc _, _, _, _, _⟩) ?_)
                   go_must (refine wl_allocK (z := .agg (poseZ3).toArray) (zs := poseZ3) hK rfl rfl (by kernel_rfl) rfl ?_; clear hK; intro w13 b13 hK))
                | ((with_reducible refine wl_at (o := ⟨none, .store 36 _ _, _, _, _, _⟩) ?_)
                   go_must (refine wl_storeWK (vs := Pose.cells r.pose) hK rfl rfl rfl rfl (aggS (by decide)) (pose_one _) (h := ?_); clear hK; intro w' hK; simp only [List.set_cons_zero, List.set_cons_succ] at hK))
                | ((with_reducible refine wl_at (o := ⟨some 14, .alloc _, _, _, _, _⟩) ?_)
                   go_must (refine wl_allocK (z := .agg (moveZ).toArray) (zs := moveZ) hK rfl rfl (by kernel_rfl) rfl ?_; clear hK; intro w14 b14 hK))
                | ((with_reducible refine wl_at (o := ⟨none, .store 38 _ _, _, _, _, _⟩) ?_)
                   go_must (refine wl_storeWK (vs := Go.Sk.Move.cells r.now) hK rfl rfl rfl rfl (aggS (by decide)) (move_one _) (h := ?_); clear hK; intro w' hK; simp only [List.set_cons_zero, List.set_cons_succ] at hK))
                | ((with_reducible refine wp_region_stableK (id := 29) hK [7] [rBlk b13 (Pose.cells r.pose) 36] (by kernel_rfl) (by kernel_rfl) (by simp) (by kernel_rfl) ?_); clear hK; intro w' hK)
                | (with_reducible refine wpC_of ?_)
                | (with_reducible refine atEndC (hK.cls (by simp)) ?_)
                | ((with_reducible refine wpC_end' ?_); refine wpC_nil ⟨by kernel_rfl, stays_loadSK rfl rfl rfl rfl (aggT (by decide)) (rest := stays_nil), ?_⟩)
                | ((with_reducible refine wl_at (o := ⟨some 84, .load _ _, _, _, _, _⟩) ?_); go_must (refine wl_loadPK (Tele.cells x.t) hK rfl rfl rfl (aggT (by decide)) (h := ?_)))
                | ((with_reducible refine wl_at (o := ⟨some 165, _, _, _, _, _⟩) ?_); go_must (refine wl_neqPs r.pose poseEq rfl rfl rfl rfl ?_))
                | ((with_reducible refine wl_at (o := ⟨some 117, .load _ _, _, _, _, _⟩) ?_); go_must (refine wl_loadPK (Pose.cells x.t.move.src) hK rfl rfl rfl (aggT (by decide)) (h := ?_)))
                | ((with_reducible refine wl_at (o := ⟨some 119, _, _, _, _, _⟩) ?_); go_must (refine wl_neqP x.t.move.src r.pose poseEq rfl rfl rfl rfl ?_; rw [HQ1.out]))
                | go_big_skip
                | go_big_skip
                | ((with_reducible refine wl_at (o := ⟨_, .load _ _, _, _, _, _⟩) ?_)
                   first
                     | refine wl_loadK hK rfl rfl rfl (scalT (by decide)) (h := ?_)
                     | refine wl_loadSK hK rfl rfl rfl (aggT (by decide)) (h := ?_)
                     | refine wl_loadA0 rfl rfl rfl (scalT (by decide)) (h := ?_)
                     | refine wl_loadA rfl rfl rfl (scalT (by decide)) (h := ?_)
                     | refine wl_loadSA rfl rfl rfl (aggT (by decide)) (h := ?_))
                | (with_reducible refine atEnd_mk (by kernel_rfl) ?_))
              go_roundg (l.length - (j + 1))
              case measure => omega
              case rel => exact ⟨j + 1, v1, by go_num, by rw [HN.out], by rw [HE.out], rfl, by omega, by omega, HO2, hK.sub (.cons _ (.cons _ (.cons _ (.cons _ (List.Sublist.refl _)))))⟩
            · have a1 : decide (r.epoch ≤ x.t.epoch) = false := decide_eq_false (by omega)
              have a5 : (x.t.kind == 2) = false := beq_eq_false_iff_ne.2 (by omega)
              clear k1 k2
              have HN := Lib.hid hnn
              have HE := Lib.hid hne
              rw [hne] at kEv
              clear hnn hne
              go_wp2_with (first
                | ((with_reducible refine wl_at (o := ⟨some 52, _, _, _, _, _⟩) ?_)
                   go_must (refine wl_ixK hK rfl rfl rfl rfl op18Ty.und op18Ty.size (h := ?_); intro b52 k52 hat52))
                | ((with_reducible refine wl_at (o := ⟨some 10, .alloc _, _, _, _, _⟩) ?_)
                   go_must (refine wl_allocK (z := .agg (opZ18).toArray) (zs := opZ18) hK rfl rfl (by kernel_rfl) rfl ?_; clear hK; intro w10 b10 hK))
                | ((with_reducible refine wl_at (o := ⟨none, .store 57 _ _, _, _, _, _⟩) ?_)
                   go_must (refine wl_storeWK (vs := Op18.cells x) hK rfl rfl rfl rfl (aggS (by decide)) (elOp18.one x) (h := ?_); clear hK; intro w' hK; simp only [List.set_cons_zero, List.set_cons_succ] at hK))
                | (go_at_call 12; go_must (refine (hK.quiet ((kPl.out _).mono (fun e w' h => ⟨h.1, by rw [h.2]; exact Mod.refl _ _⟩))).mono ?_; clear hK; rintro e w' ⟨rfl, hK⟩))
                | (go_at_call 14; first
                    | (have hck := (show Know _ _ _ (rBlk _ _ _ :: _) _ from hK); clear hck; refine (hK.quiet (kPr.out _ hK.own)).mono ?_; clear hK; rintro e w' ⟨rfl, hK⟩)
                    | (refine (hK.quiet (kPv.out _ hK.own)).mono ?_; clear hK; rintro e w' ⟨rfl, hK⟩))
                | (go_at_call 9; go_must (refine (hK.quiet (kNr.out _ hK.own)).mono ?_; clear hK; rintro e w' ⟨rfl, hK⟩))
                | (go_at_call 10; go_must (refine (hK.quiet (kEv.out _ hK.own)).mono ?_; clear hK; rintro e w' ⟨rfl, hK⟩))
                | (go_at_call 8; go_must (refine (Know.hears hK (by repeat (first | exact Ix.head | apply Ix.tail)) (by simp) (fun S hS => kH.out _ S hS)).mono ?_; clear hK; rintro e w' ⟨adt, cpt, rfl, hK⟩; simp only [List.set_cons_zero, List.set_cons_succ] at hK))
                | ((with_reducible refine wl_at (o := ⟨some 13, .alloc _, _, _, _, _⟩) ?_)
                   go_must (refine wl_allocK (z := .agg (poseZ3).toArray) (zs := poseZ3) hK rfl rfl (by kernel_rfl) rfl ?_; clear hK; intro w13 b13 hK))
                | ((with_reducible refine wl_at (o := ⟨none, .store 36 _ _, _, _, _, _⟩) ?_)
                   go_must (refine wl_storeWK (vs := Pose.cells r.pose) hK rfl rfl rfl rfl (aggS (by decide)) (pose_one _) (h := ?_); clear hK; intro w' hK; simp only [List.set_cons_zero, List.set_cons_succ] at hK))
                | ((with_reducible refine wl_at (o := ⟨some 14, .alloc _, _, _, _, _⟩) ?_)
                   go_must (refine wl_allocK (z := .agg (moveZ).toArray) (zs := moveZ) hK rfl rfl (by kernel_rfl) rfl ?_; clear hK; intro w14 b14 hK))
                | ((with_reducible refine wl_at (o := ⟨none, .store 38 _ _, _, _, _, _⟩) ?_)
                   go_must (refine wl_storeWK (vs := Go.Sk.Move.cells r.now) hK rfl rfl rfl rfl (aggS (by decide)) (move_one _) (h := ?_); clear hK; intro w' hK; simp only [List.set_cons_zero, List.set_cons_succ] at hK))
                | ((with_reducible refine wp_region_stableK (id := 29) hK [7] [rBlk b13 (Pose.cells r.pose) 36] (by kernel_rfl) (by kernel_rfl) (by simp) (by kernel_rfl) ?_); clear hK; intro w' hK)
                | (with_reducible refine wpC_of ?_)
                | (with_reducible refine atEndC (hK.cls (by simp)) ?_)
                | ((with_reducible refine wpC_end' ?_); refine wpC_nil ⟨by kernel_rfl, stays_loadSK rfl rfl rfl rfl (aggT (by decide)) (rest := stays_nil), ?_⟩)
                | ((with_reducible refine wl_at (o := ⟨some 84, .load _ _, _, _, _, _⟩) ?_); go_must (refine wl_loadPK (Tele.cells x.t) hK rfl rfl rfl (aggT (by decide)) (h := ?_)))
                | ((with_reducible refine wl_at (o := ⟨some 165, _, _, _, _, _⟩) ?_); go_must (refine wl_neqPs r.pose poseEq rfl rfl rfl rfl ?_))
                | go_big_skip
                | go_big_skip
                | ((with_reducible refine wl_at (o := ⟨_, .load _ _, _, _, _, _⟩) ?_)
                   first
                     | refine wl_loadK hK rfl rfl rfl (scalT (by decide)) (h := ?_)
                     | refine wl_loadSK hK rfl rfl rfl (aggT (by decide)) (h := ?_)
                     | refine wl_loadA0 rfl rfl rfl (scalT (by decide)) (h := ?_)
                     | refine wl_loadA rfl rfl rfl (scalT (by decide)) (h := ?_)
                     | refine wl_loadSA rfl rfl rfl (aggT (by decide)) (h := ?_))
                | (with_reducible refine atEnd_mk (by kernel_rfl) ?_))
              go_roundg (l.length - (j + 1))
              case measure => omega
              case rel => exact ⟨j + 1, v1, by go_num, by rw [HN.out], by rw [HE.out], rfl, by omega, by omega, HO2, hK.sub (.cons _ (.cons _ (.cons _ (.cons _ (List.Sublist.refl _)))))⟩
            · have b1 : (how == 1) = false := beq_eq_false_iff_ne.2 n1
              have b2 : (how == 2) = false := beq_eq_false_iff_ne.2 n2
              have a1 : (x.t.kind == 2) = true := beq_iff_eq.2 k1
              have a2 : (x.t.robot == 0) = true := beq_iff_eq.2 k2
              have a3 : decide (r.epoch < x.t.epoch) = true := decide_eq_true k3
              clear k1 k2 k3 n1 n2
              have HN := Lib.hid hnn
              have HE := Lib.hid hne
              rw [hne] at kEv
              clear hnn hne
              go_wp2_with (first
                | ((with_reducible refine wl_at (o := ⟨some 52, _, _, _, _, _⟩) ?_)
                   go_must (refine wl_ixK hK rfl rfl rfl rfl op18Ty.und op18Ty.size (h := ?_); intro b52 k52 hat52))
                | ((with_reducible refine wl_at (o := ⟨some 10, .alloc _, _, _, _, _⟩) ?_)
                   go_must (refine wl_allocK (z := .agg (opZ18).toArray) (zs := opZ18) hK rfl rfl (by kernel_rfl) rfl ?_; clear hK; intro w10 b10 hK))
                | ((with_reducible refine wl_at (o := ⟨none, .store 57 _ _, _, _, _, _⟩) ?_)
                   go_must (refine wl_storeWK (vs := Op18.cells x) hK rfl rfl rfl rfl (aggS (by decide)) (elOp18.one x) (h := ?_); clear hK; intro w' hK; simp only [List.set_cons_zero, List.set_cons_succ] at hK))
                | (go_at_call 12; go_must (refine (hK.quiet ((kPl.out _).mono (fun e w' h => ⟨h.1, by rw [h.2]; exact Mod.refl _ _⟩))).mono ?_; clear hK; rintro e w' ⟨rfl, hK⟩))
                | (go_at_call 14; first
                    | (have hck := (show Know _ _ _ (rBlk _ _ _ :: _) _ from hK); clear hck; refine (hK.quiet (kPr.out _ hK.own)).mono ?_; clear hK; rintro e w' ⟨rfl, hK⟩)
                    | (refine (hK.quiet (kPv.out _ hK.own)).mono ?_; clear hK; rintro e w' ⟨rfl, hK⟩))
                | (go_at_call 9; go_must (refine (hK.quiet (kNr.out _ hK.own)).mono ?_; clear hK; rintro e w' ⟨rfl, hK⟩))
                | (go_at_call 10; go_must (refine (hK.quiet (kEv.out _ hK.own)).mono ?_; clear hK; rintro e w' ⟨rfl, hK⟩))
                | (go_at_call 8; go_must (refine (Know.hears hK (by repeat (first | exact Ix.head | apply Ix.tail)) (by simp) (fun S hS => kH.out _ S hS)).mono ?_; clear hK; rintro e w' ⟨adt, cpt, rfl, hK⟩; simp only [List.set_cons_zero, List.set_cons_succ] at hK))
                | ((with_reducible refine wl_at (o := ⟨some 13, .alloc _, _, _, _, _⟩) ?_)
                   go_must (refine wl_allocK (z := .agg (poseZ3).toArray) (zs := poseZ3) hK rfl rfl (by kernel_rfl) rfl ?_; clear hK; intro w13 b13 hK))
                | ((with_reducible refine wl_at (o := ⟨none, .store 36 _ _, _, _, _, _⟩) ?_)
                   go_must (refine wl_storeWK (vs := Pose.cells r.pose) hK rfl rfl rfl rfl (aggS (by decide)) (pose_one _) (h := ?_); clear hK; intro w' hK; simp only [List.set_cons_zero, List.set_cons_succ] at hK))
                | ((with_reducible refine wl_at (o := ⟨some 14, .alloc _, _, _, _, _⟩) ?_)
                   go_must (refine wl_allocK (z := .agg (moveZ).toArray) (zs := moveZ) hK rfl rfl (by kernel_rfl) rfl ?_; clear hK; intro w14 b14 hK))
                | ((with_reducible refine wl_at (o := ⟨none, .store 38 _ _, _, _, _, _⟩) ?_)
                   go_must (refine wl_storeWK (vs := Go.Sk.Move.cells r.now) hK rfl rfl rfl rfl (aggS (by decide)) (move_one _) (h := ?_); clear hK; intro w' hK; simp only [List.set_cons_zero, List.set_cons_succ] at hK))
                | ((with_reducible refine wp_region_stableK (id := 29) hK [7] [rBlk b13 (Pose.cells r.pose) 36] (by kernel_rfl) (by kernel_rfl) (by simp) (by kernel_rfl) ?_); clear hK; intro w' hK)
                | (with_reducible refine wpC_of ?_)
                | (with_reducible refine atEndC (hK.cls (by simp)) ?_)
                | ((with_reducible refine wpC_end' ?_); refine wpC_nil ⟨by kernel_rfl, stays_loadSK rfl rfl rfl rfl (aggT (by decide)) (rest := stays_nil), ?_⟩)
                | ((with_reducible refine wl_at (o := ⟨some 84, .load _ _, _, _, _, _⟩) ?_); go_must (refine wl_loadPK (Tele.cells x.t) hK rfl rfl rfl (aggT (by decide)) (h := ?_)))
                | ((with_reducible refine wl_at (o := ⟨some 165, _, _, _, _, _⟩) ?_); go_must (refine wl_neqPs r.pose poseEq rfl rfl rfl rfl ?_))
                | go_big_skip
                | go_big_skip
                | ((with_reducible refine wl_at (o := ⟨_, .load _ _, _, _, _, _⟩) ?_)
                   first
                     | refine wl_loadK hK rfl rfl rfl (scalT (by decide)) (h := ?_)
                     | refine wl_loadSK hK rfl rfl rfl (aggT (by decide)) (h := ?_)
                     | refine wl_loadA0 rfl rfl rfl (scalT (by decide)) (h := ?_)
                     | refine wl_loadA rfl rfl rfl (scalT (by decide)) (h := ?_)
                     | refine wl_loadSA rfl rfl rfl (aggT (by decide)) (h := ?_))
                | (with_reducible refine atEnd_mk (by kernel_rfl) ?_))
              go_roundg (l.length - (j + 1))
              case measure => omega
              case rel => exact ⟨j + 1, v1, by go_num, by rw [HN.out], by rw [HE.out], rfl, by omega, by omega, HO2, hK.sub (.cons _ (.cons _ (.cons _ (.cons _ (List.Sublist.refl _)))))⟩
            · have kc : x.t.kind ≠ 2 ∨ (x.t.kind = 2 ∧ x.t.robot ≠ 0) ∨ (x.t.kind = 2 ∧ x.t.robot = 0 ∧ ¬ r.epoch < x.t.epoch) := by omega
              rcases kc with k1 | ⟨k1, k2⟩ | ⟨k1, k2, k3⟩
              · have b1 : (how == 1) = false := beq_eq_false_iff_ne.2 n1
                have b2 : (how == 2) = false := beq_eq_false_iff_ne.2 n2
                have a1 : (x.t.kind == 2) = false := beq_eq_false_iff_ne.2 k1
                clear k1 n1 n2 kn
                have HN := Lib.hid hnn
                have HE := Lib.hid hne
                rw [hne] at kEv
                clear hnn hne
                go_wp2_with (first
                  | ((with_reducible refine wl_at (o := ⟨some 52, _, _, _, _, _⟩) ?_)
                     go_must (refine wl_ixK hK rfl rfl rfl rfl op18Ty.und op18Ty.size (h := ?_); intro b52 k52 hat52))
                  | ((with_reducible refine wl_at (o := ⟨some 10, .alloc _, _, _, _, _⟩) ?_)
                     go_must (refine wl_allocK (z := .agg (opZ18).toArray) (zs := opZ18) hK rfl rfl (by kernel_rfl) rfl ?_; clear hK; intro w10 b10 hK))
                  | ((with_reducible refine wl_at (o := ⟨none, .store 57 _ _, _, _, _, _⟩) ?_)
                     go_must (refine wl_storeWK (vs := Op18.cells x) hK rfl rfl rfl rfl (aggS (by decide)) (elOp18.one x) (h := ?_); clear hK; intro w' hK; simp only [List.set_cons_zero, List.set_cons_succ] at hK))
                  | (go_at_call 12; go_must (refine (hK.quiet ((kPl.out _).mono (fun e w' h => ⟨h.1, by rw [h.2]; exact Mod.refl _ _⟩))).mono ?_; clear hK; rintro e w' ⟨rfl, hK⟩))
                  | (go_at_call 14; first
                      | (have hck := (show Know _ _ _ (rBlk _ _ _ :: _) _ from hK); clear hck; refine (hK.quiet (kPr.out _ hK.own)).mono ?_; clear hK; rintro e w' ⟨rfl, hK⟩)
                      | (refine (hK.quiet (kPv.out _ hK.own)).mono ?_; clear hK; rintro e w' ⟨rfl, hK⟩))
                  | (go_at_call 9; go_must (refine (hK.quiet (kNr.out _ hK.own)).mono ?_; clear hK; rintro e w' ⟨rfl, hK⟩))
                  | (go_at_call 10; go_must (refine (hK.quiet (kEv.out _ hK.own)).mono ?_; clear hK; rintro e w' ⟨rfl, hK⟩))
                  | (go_at_call 8; go_must (refine (Know.hears hK (by repeat (first | exact Ix.head | apply Ix.tail)) (by simp) (fun S hS => kH.out _ S hS)).mono ?_; clear hK; rintro e w' ⟨adt, cpt, rfl, hK⟩; simp only [List.set_cons_zero, List.set_cons_succ] at hK))
                  | ((with_reducible refine wl_at (o := ⟨some 13, .alloc _, _, _, _, _⟩) ?_)
                     go_must (refine wl_allocK (z := .agg (poseZ3).toArray) (zs := poseZ3) hK rfl rfl (by kernel_rfl) rfl ?_; clear hK; intro w13 b13 hK))
                  | ((with_reducible refine wl_at (o := ⟨none, .store 36 _ _, _, _, _, _⟩) ?_)
                     go_must (refine wl_storeWK (vs := Pose.cells r.pose) hK rfl rfl rfl rfl (aggS (by decide)) (pose_one _) (h := ?_); clear hK; intro w' hK; simp only [List.set_cons_zero, List.set_cons_succ] at hK))
                  | ((with_reducible refine wl_at (o := ⟨some 14, .alloc _, _, _, _, _⟩) ?_)
                     go_must (refine wl_allocK (z := .agg (moveZ).toArray) (zs := moveZ) hK rfl rfl (by kernel_rfl) rfl ?_; clear hK; intro w14 b14 hK))
                  | ((with_reducible refine wl_at (o := ⟨none, .store 38 _ _, _, _, _, _⟩) ?_)
                     go_must (refine wl_storeWK (vs := Go.Sk.Move.cells r.now) hK rfl rfl rfl rfl (aggS (by decide)) (move_one _) (h := ?_); clear hK; intro w' hK; simp only [List.set_cons_zero, List.set_cons_succ] at hK))
                  | ((with_reducible refine wp_region_stableK (id := 29) hK [7] [rBlk b13 (Pose.cells r.pose) 36] (by kernel_rfl) (by kernel_rfl) (by simp) (by kernel_rfl) ?_); clear hK; intro w' hK)
                  | (with_reducible refine wpC_of ?_)
                  | (with_reducible refine atEndC (hK.cls (by simp)) ?_)
                  | ((with_reducible refine wpC_end' ?_); refine wpC_nil ⟨by kernel_rfl, stays_loadSK rfl rfl rfl rfl (aggT (by decide)) (rest := stays_nil), ?_⟩)
                  | ((with_reducible refine wl_at (o := ⟨some 84, .load _ _, _, _, _, _⟩) ?_); go_must (refine wl_loadPK (Tele.cells x.t) hK rfl rfl rfl (aggT (by decide)) (h := ?_)))
                  | ((with_reducible refine wl_at (o := ⟨some 165, _, _, _, _, _⟩) ?_); go_must (refine wl_neqPs r.pose poseEq rfl rfl rfl rfl ?_))
                  | go_big_skip
                  | go_big_skip
                  | ((with_reducible refine wl_at (o := ⟨_, .load _ _, _, _, _, _⟩) ?_)
                     first
                       | refine wl_loadK hK rfl rfl rfl (scalT (by decide)) (h := ?_)
                       | refine wl_loadSK hK rfl rfl rfl (aggT (by decide)) (h := ?_)
                       | refine wl_loadA0 rfl rfl rfl (scalT (by decide)) (h := ?_)
                       | refine wl_loadA rfl rfl rfl (scalT (by decide)) (h := ?_)
                       | refine wl_loadSA rfl rfl rfl (aggT (by decide)) (h := ?_))
                  | (with_reducible refine atEnd_mk (by kernel_rfl) ?_))
                go_roundg (l.length - (j + 1))
                case measure => omega
                case rel => exact ⟨j + 1, v1, by go_num, by rw [HN.out], by rw [HE.out], rfl, by omega, by omega, HO2, hK.sub (.cons _ (.cons _ (.cons _ (.cons _ (List.Sublist.refl _)))))⟩
              · have b1 : (how == 1) = false := beq_eq_false_iff_ne.2 n1
                have b2 : (how == 2) = false := beq_eq_false_iff_ne.2 n2
                have a1 : (x.t.kind == 2) = true := beq_iff_eq.2 k1
                have a2 : (x.t.robot == 0) = false := beq_eq_false_iff_ne.2 k2
                clear k1 k2 n1 n2 kn
                have HN := Lib.hid hnn
                have HE := Lib.hid hne
                rw [hne] at kEv
                clear hnn hne
                go_wp2_with (first
                  | ((with_reducible refine wl_at (o := ⟨some 52, _, _, _, _, _⟩) ?_)
                     go_must (refine wl_ixK hK rfl rfl rfl rfl op18Ty.und op18Ty.size (h := ?_); intro b52 k52 hat52))
                  | ((with_reducible refine wl_at (o := ⟨some 10, .alloc _, _, _, _, _⟩) ?_)
                     go_must (refine wl_allocK (z := .agg (opZ18).toArray) (zs := opZ18) hK rfl rfl (by kernel_rfl) rfl ?_; clear hK; intro w10 b10 hK))
                  | ((with_reducible refine wl_at (o := ⟨none, .store 57 _ _, _, _, _, _⟩) ?_)
                     go_must (refine wl_storeWK (vs := Op18.cells x) hK rfl rfl rfl rfl (aggS (by decide)) (elOp18.one x) (h := ?_); clear hK; intro w' hK; simp only [List.set_cons_zero, List.set_cons_succ] at hK))
                  | (go_at_call 12; go_must (refine (hK.quiet ((kPl.out _).mono (fun e w' h => ⟨h.1, by rw [h.2]; exact Mod.refl _ _⟩))).mono ?_; clear hK; rintro e w' ⟨rfl, hK⟩))
                  | (go_at_call 14; first
                      | (have hck := (show Know _ _ _ (rBlk _ _ _ :: _) _ from hK); clear hck; refine (hK.quiet (kPr.out _ hK.own)).mono ?_; clear hK; rintro e w' ⟨rfl, hK⟩)
                      | (refine (hK.quiet (kPv.out _ hK.own)).mono ?_; clear hK; rintro e w' ⟨rfl, hK⟩))
                  | (go_at_call 9; go_must (refine (hK.quiet (kNr.out _ hK.own)).mono ?_; clear hK; rintro e w' ⟨rfl, hK⟩))
                  | (go_at_call 10; go_must (refine (hK.quiet (kEv.out _ hK.own)).mono ?_; clear hK; rintro e w' ⟨rfl, hK⟩))
                  | (go_at_call 8; go_must (refine (Know.hears hK (by repeat (first | exact Ix.head | apply Ix.tail)) (by simp) (fun S hS => kH.out _ S hS)).mono ?_; clear hK; rintro e w' ⟨adt, cpt, rfl, hK⟩; simp only [List.set_cons_zero, List.set_cons_succ] at hK))
                  | ((with_reducible refine wl_at (o := ⟨some 13, .alloc _, _, _, _, _⟩) ?_)
                     go_must (refine wl_allocK (z := .agg (poseZ3).toArray) (zs := poseZ3) hK rfl rfl (by kernel_rfl) rfl ?_; clear hK; intro w13 b13 hK))
                  | ((with_reducible refine wl_at (o := ⟨none, .store 36 _ _, _, _, _, _⟩) ?_)
                     go_must (refine wl_storeWK (vs := Pose.cells r.pose) hK rfl rfl rfl rfl (aggS (by decide)) (pose_one _) (h := ?_); clear hK; intro w' hK; simp only [List.set_cons_zero, List.set_cons_succ] at hK))
                  | ((with_reducible refine wl_at (o := ⟨some 14, .alloc _, _, _, _, _⟩) ?_)
                     go_must (refine wl_allocK (z := .agg (moveZ).toArray) (zs := moveZ) hK rfl rfl (by kernel_rfl) rfl ?_; clear hK; intro w14 b14 hK))
                  | ((with_reducible refine wl_at (o := ⟨none, .store 38 _ _, _, _, _, _⟩) ?_)
                     go_must (refine wl_storeWK (vs := Go.Sk.Move.cells r.now) hK rfl rfl rfl rfl (aggS (by decide)) (move_one _) (h := ?_); clear hK; intro w' hK; simp only [List.set_cons_zero, List.set_cons_succ] at hK))
                  | ((with_reducible refine wp_region_stableK (id := 29) hK [7] [rBlk b13 (Pose.cells r.pose) 36] (by kernel_rfl) (by kernel_rfl) (by simp) (by kernel_rfl) ?_); clear hK; intro w' hK)
                  | (with_reducible refine wpC_of ?_)
                  | (with_reducible refine atEndC (hK.cls (by simp)) ?_)
                  | ((with_reducible refine wpC_end' ?_); refine wpC_nil ⟨by kernel_rfl, stays_loadSK rfl rfl rfl rfl (aggT (by decide)) (rest := stays_nil), ?_⟩)
                  | ((with_reducible refine wl_at (o := ⟨some 84, .load _ _, _, _, _, _⟩) ?_); go_must (refine wl_loadPK (Tele.cells x.t) hK rfl rfl rfl (aggT (by decide)) (h := ?_)))
                  | ((with_reducible refine wl_at (o := ⟨some 165, _, _, _, _, _⟩) ?_); go_must (refine wl_neqPs r.pose poseEq rfl rfl rfl rfl ?_))
                  | go_big_skip
                  | go_big_skip
                  | ((with_reducible refine wl_at (o := ⟨_, .load _ _, _, _, _, _⟩) ?_)
                     first
                       | refine wl_loadK hK rfl rfl rfl (scalT (by decide)) (h := ?_)
                       | refine wl_loadSK hK rfl rfl rfl (aggT (by decide)) (h := ?_)
                       | refine wl_loadA0 rfl rfl rfl (scalT (by decide)) (h := ?_)
                       | refine wl_loadA rfl rfl rfl (scalT (by decide)) (h := ?_)
                       | refine wl_loadSA rfl rfl rfl (aggT (by decide)) (h := ?_))
                  | (with_reducible refine atEnd_mk (by kernel_rfl) ?_))
                go_roundg (l.length - (j + 1))
                case measure => omega
                case rel => exact ⟨j + 1, v1, by go_num, by rw [HN.out], by rw [HE.out], rfl, by omega, by omega, HO2, hK.sub (.cons _ (.cons _ (.cons _ (.cons _ (List.Sublist.refl _)))))⟩
              · have b1 : (how == 1) = false := beq_eq_false_iff_ne.2 n1
                have b2 : (how == 2) = false := beq_eq_false_iff_ne.2 n2
                have a1 : (x.t.kind == 2) = true := beq_iff_eq.2 k1
                have a2 : (x.t.robot == 0) = true := beq_iff_eq.2 k2
                have a3 : decide (r.epoch < x.t.epoch) = false := decide_eq_false k3
                clear k1 k2 k3 n1 n2 kn
                have HN := Lib.hid hnn
                have HE := Lib.hid hne
                rw [hne] at kEv
                clear hnn hne
                go_wp2_with (first
                  | ((with_reducible refine wl_at (o := ⟨some 52, _, _, _, _, _⟩) ?_)
                     go_must (refine wl_ixK hK rfl rfl rfl rfl op18Ty.und op18Ty.size (h := ?_); intro b52 k52 hat52))
                  | ((with_reducible refine wl_at (o := ⟨some 10, .alloc _, _, _, _, _⟩) ?_)
                     go_must (refine wl_allocK (z := .agg (opZ18).toArray) (zs := opZ18) hK rfl rfl (by kernel_rfl) rfl ?_; clear hK; intro w10 b10 hK))
                  | ((with_reducible refine wl_at (o := ⟨none, .store 57 _ _, _, _, _, _⟩) ?_)
                     go_must (refine wl_storeWK (vs := Op18.cells x) hK rfl rfl rfl rfl (aggS (by decide)) (elOp18.one x) (h := ?_); clear hK; intro w' hK; simp only [List.set_cons_zero, List.set_cons_succ] at hK))
                  | (go_at_call 12; go_must (refine (hK.quiet ((kPl.out _).mono (fun e w' h => ⟨h.1, by rw [h.2]; exact Mod.refl _ _⟩))).mono ?_; clear hK; rintro e w' ⟨rfl, hK⟩))
                  | (go_at_call 14; first
                      | (have hck := (show Know _ _ _ (rBlk _ _ _ :: _) _ from hK); clear hck; refine (hK.quiet (kPr.out _ hK.own)).mono ?_; clear hK; rintro e w' ⟨rfl, hK⟩)
                      | (refine (hK.quiet (kPv.out _ hK.own)).mono ?_; clear hK; rintro e w' ⟨rfl, hK⟩))
                  | (go_at_call 9; go_must (refine (hK.quiet (kNr.out _ hK.own)).mono ?_; clear hK; rintro e w' ⟨rfl, hK⟩))
                  | (go_at_call 10; go_must (refine (hK.quiet (kEv.out _ hK.own)).mono ?_; clear hK; rintro e w' ⟨rfl, hK⟩))
                  | (go_at_call 8; go_must (refine (Know.hears hK (by repeat (first | exact Ix.head | apply Ix.tail)) (by simp) (fun S hS => kH.out _ S hS)).mono ?_; clear hK; rintro e w' ⟨adt, cpt, rfl, hK⟩; simp only [List.set_cons_zero, List.set_cons_succ] at hK))
                  | ((with_reducible refine wl_at (o := ⟨some 13, .alloc _, _, _, _, _⟩) ?_)
                     go_must (refine wl_allocK (z := .agg (poseZ3).toArray) (zs := poseZ3) hK rfl rfl (by kernel_rfl) rfl ?_; clear hK; intro w13 b13 hK))
                  | ((with_reducible refine wl_at (o := ⟨none, .store 36 _ _, _, _, _, _⟩) ?_)
                     go_must (refine wl_storeWK (vs := Pose.cells r.pose) hK rfl rfl rfl rfl (aggS (by decide)) (pose_one _) (h := ?_); clear hK; intro w' hK; simp only [List.set_cons_zero, List.set_cons_succ] at hK))
                  | ((with_reducible refine wl_at (o := ⟨some 14, .alloc _, _, _, _, _⟩) ?_)
                     go_must (refine wl_allocK (z := .agg (moveZ).toArray) (zs := moveZ) hK rfl rfl (by kernel_rfl) rfl ?_; clear hK; intro w14 b14 hK))
                  | ((with_reducible refine wl_at (o := ⟨none, .store 38 _ _, _, _, _, _⟩) ?_)
                     go_must (refine wl_storeWK (vs := Go.Sk.Move.cells r.now) hK rfl rfl rfl rfl (aggS (by decide)) (move_one _) (h := ?_); clear hK; intro w' hK; simp only [List.set_cons_zero, List.set_cons_succ] at hK))
                  | ((with_reducible refine wp_region_stableK (id := 29) hK [7] [rBlk b13 (Pose.cells r.pose) 36] (by kernel_rfl) (by kernel_rfl) (by simp) (by kernel_rfl) ?_); clear hK; intro w' hK)
                  | (with_reducible refine wpC_of ?_)
                  | (with_reducible refine atEndC (hK.cls (by simp)) ?_)
                  | ((with_reducible refine wpC_end' ?_); refine wpC_nil ⟨by kernel_rfl, stays_loadSK rfl rfl rfl rfl (aggT (by decide)) (rest := stays_nil), ?_⟩)
                  | ((with_reducible refine wl_at (o := ⟨some 84, .load _ _, _, _, _, _⟩) ?_); go_must (refine wl_loadPK (Tele.cells x.t) hK rfl rfl rfl (aggT (by decide)) (h := ?_)))
                  | ((with_reducible refine wl_at (o := ⟨some 165, _, _, _, _, _⟩) ?_); go_must (refine wl_neqPs r.pose poseEq rfl rfl rfl rfl ?_))
                  | go_big_skip
                  | go_big_skip
                  | ((with_reducible refine wl_at (o := ⟨_, .load _ _, _, _, _, _⟩) ?_)
                     first
                       | refine wl_loadK hK rfl rfl rfl (scalT (by decide)) (h := ?_)
                       | refine wl_loadSK hK rfl rfl rfl (aggT (by decide)) (h := ?_)
                       | refine wl_loadA0 rfl rfl rfl (scalT (by decide)) (h := ?_)
                       | refine wl_loadA rfl rfl rfl (scalT (by decide)) (h := ?_)
                       | refine wl_loadSA rfl rfl rfl (aggT (by decide)) (h := ?_))
                  | (with_reducible refine atEnd_mk (by kernel_rfl) ?_))
                go_roundg (l.length - (j + 1))
                case measure => omega
                case rel => exact ⟨j + 1, v1, by go_num, by rw [HN.out], by rw [HE.out], rfl, by omega, by omega, HO2, hK.sub (.cons _ (.cons _ (.cons _ (.cons _ (List.Sublist.refl _)))))⟩
        · have hend : ¬ j < l.length ∨ (j < l.length ∧ ¬ j < 80) := by omega
          rcases hend with he | ⟨he, he2⟩
          all_goals
            go_wp2_with (first
              | (go_at_call 11; go_must (refine (hK.quiet (awake_calls hK.lent)).mono ?_; clear hK; rintro e w' ⟨rfl, hK⟩))
              | go_big_skip
              | go_big_skip
              | ((with_reducible refine wl_at (o := ⟨_, .load _ _, _, _, _, _⟩) ?_)
                 first
                   | refine wl_loadK hK rfl rfl rfl (scalT (by decide)) (h := ?_)
                   | refine wl_loadSK hK rfl rfl rfl (aggT (by decide)) (h := ?_)
                   | refine wl_loadA0 rfl rfl rfl (scalT (by decide)) (h := ?_)
                   | refine wl_loadA rfl rfl rfl (scalT (by decide)) (h := ?_)
                   | refine wl_loadSA rfl rfl rfl (aggT (by decide)) (h := ?_))
              | (with_reducible refine atEnd_mk (by kernel_rfl) ?_))
            go_ret
            exact ⟨rfl, hK.mod⟩
end Go.Proofs.YtcjpnlplibaffaaDoor
