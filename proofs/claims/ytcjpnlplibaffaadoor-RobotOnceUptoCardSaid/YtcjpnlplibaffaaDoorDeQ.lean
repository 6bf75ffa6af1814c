/- RobotDeaf. -/
import Derived.Test.YtcjpnlplibaffaaDoorRbA
import Derived.Test.YtcjpnlplibaffaaDoorStC
set_option linter.all false
namespace Go.Proofs.YtcjpnlplibaffaaDoor
open Go Go.Sk Go.RowKit
set_option maxRecDepth 100000

theorem teleElTy : ElTy Tryd.prog 40 elTele teleKs := ⟨by kernel_rfl, by kernel_rfl, rfl, by decide, ofk_tele⟩
def teleZ : List Value := [.int .i64 0, .int .i64 0, .int .i64 0, .int .i64 0, .int .i64 0, .int .i64 0, .int .i64 0, .int .i64 0, .int .i64 0, .bool false, .int .i64 0, .int .i64 0, .bool false, .int .i64 0, .int .i64 0, .int .i64 0, .int .i64 0, .bool false, .int .i64 0]

set_option maxHeartbeats 4000000 in
theorem deaf_calls {sv : Value} {l : List Tele} {w : World} (hst : Has w stepsR) (hl : Rd w elTele sv l) (_hlen : l.length ≤ 1048576) {R : Prop} (_ : R) : Calls Tryd.prog 3 #[sv] w (Ret (.bool true) w) := by
  have hK : Know w w none' [] [rRd elTele sv l, stepsR] := Know.start (L := [rRd elTele sv l, stepsR]) w (by
    intro r hr
    simp only [List.mem_cons, List.not_mem_nil, or_false] at hr
    rcases hr with rfl | rfl
    · exact hl.has
    · exact hst)
  obtain ⟨sa, sc, rfl⟩ := hl.vee
  clear hst hl
  go_enter Tryd.func3, Tryd.ntmps3
  go_wp2_with (first
    | (go_at_call 7; go_must (refine conf_calls.mono ?_; rintro e w' ⟨adc, rfl, hT⟩; replace hK := hK.push1 hT; clear hT))
    | (go_at_call 6; go_must (refine (rc_new hK.own hK.lent).mono ?_; rintro e w' ⟨p, rfl, hT⟩; replace hK := hK.push1 hT; clear hT))
    | go_big_skip
    | go_big_skip
    | ((with_reducible refine wl_at (o := ⟨_, .load _ _, _, _, _, _⟩) ?_)
       first
         | refine wl_loadK hK rfl rfl rfl (scalT (by decide)) (h := ?_)
         | refine wl_loadSK hK rfl rfl rfl (aggT (by decide)) (h := ?_)
         | refine wl_loadA0 rfl rfl rfl (scalT (by decide)) (h := ?_)
         | refine wl_loadA rfl rfl rfl (scalT (by decide)) (h := ?_)
         | refine wl_loadSA rfl rfl rfl (aggT (by decide)) (h := ?_))
    | (with_reducible refine atEnd_mk (by kernel_rfl) ?_))
  go_loopg [5, 6, 7, 8, 9, 10] l.length (fun k i _ _ _ _ _ wr => ∃ (j : Nat) (Z : List Res), i = .int .i64 j ∧ k = l.length - j ∧ j ≤ l.length ∧
    Know w wr none' [rROB rcP 0 p (RM.start poseO), rOw 36 elPose (.slice adc 1 1) [poseO]] [rRd elTele (.slice sa l.length sc) l, stepsR])
  case atStart => exact ⟨0, [], rfl, by omega, by omega, hK⟩
  case round =>
    clear hK
    obtain ⟨j, _, rfl, rfl, hj, hK⟩ := hrel
    by_cases hlt : j < l.length ∧ j < 60
    · obtain ⟨hlt, hlt2⟩ := hlt
      obtain ⟨t, ht⟩ : ∃ t, l[j]? = some t := ⟨_, List.getElem?_eq_getElem hlt⟩
      have HT := Lib.hid ht
      clear ht
      have hcs : (t.robot = 0 ∧ t.kind = 1) ∨ (t.robot = 0 ∧ t.kind ≠ 1 ∧ t.kind = 2) ∨ (t.robot = 0 ∧ t.kind ≠ 1 ∧ t.kind ≠ 2) ∨ t.robot ≠ 0 := by omega
      rcases hcs with ⟨h0, h1⟩ | ⟨h0, h1, h2⟩ | ⟨h0, h1, h2⟩ | h0
      · have e0 : decide (t.robot = 0) = true := decide_eq_true h0
        have e0' : (t.robot == 0) = true := beq_iff_eq.2 h0
        have e1 : decide (t.kind = 1) = true := decide_eq_true h1
        have e1' : (t.kind == 1) = true := beq_iff_eq.2 h1
        have kH := Lib.hid (fun (W : World) (h : Has W (rROB rcP 0 p (RM.start poseO))) => rb_hear_none (t := { t with robot := 1 }) h (.inl (by show (1 : Int) ≠ 0; decide)))
        clear h0 h1
        go_wp2_with (first
          | ((with_reducible refine wl_at (o := ⟨some 34, _, _, _, _, _⟩) ?_)
             go_must (refine wl_ixK hK rfl rfl rfl rfl teleTy.und teleTy.size (h := ?_); intro b34 k34 hat34))
          | ((with_reducible refine wl_at (o := ⟨some 6, .alloc _, _, _, _, _⟩) ?_)
             go_must (refine wl_allocK (z := .agg (teleZ).toArray) (zs := teleZ) hK rfl rfl (by kernel_rfl) rfl ?_; clear hK; intro w6 b6 hK))
          | ((with_reducible refine wl_at (o := ⟨none, .store 40 _ _, _, _, _, _⟩) ?_)
             go_must (refine wl_storeWK (vs := Tele.cells t) hK rfl rfl rfl rfl (aggS (by decide)) (elTele.one t) (h := ?_); clear hK; intro w' hK; simp only [List.set_cons_zero, List.set_cons_succ] at hK))
          | ((with_reducible refine wl_at (o := ⟨none, .store 3 (.tmp 49) _, _, _, _, _⟩) ?_); go_must (refine wl_storeK hK rfl rfl rfl rfl (sizT (by decide)) rfl (hk := by simp [Tele.cells]) (h := ?_); clear hK; intro w' hK; replace hK : Know w w' none' [rBlk b6 (Tele.cells { t with robot := 1 }) 40, rROB rcP 0 p (RM.start poseO), rOw 36 elPose (.slice adc 1 1) [poseO]] [rRd elTele (.slice sa l.length sc) l, stepsR] := hK))
          | (go_at_call 8; go_must (refine (hK.quiet (kH.out _ hK.own)).mono ?_; clear hK; rintro e w' ⟨rfl, hK⟩))
          | (go_at_call 9; go_must (refine (hK.quiet (rb_now (r := RM.start poseO) hK.own)).mono ?_; clear hK; rintro e w' ⟨rfl, hK⟩))
          | (go_at_call 10; go_must (refine (hK.quiet (rb_epoch (r := RM.start poseO) hK.own)).mono ?_; clear hK; rintro e w' ⟨rfl, hK⟩))
          | ((with_reducible refine wl_at (o := ⟨some 9, .alloc _, _, _, _, _⟩) ?_)
             go_must (refine wl_allocK (z := .agg (moveZ).toArray) (zs := moveZ) hK rfl rfl (by kernel_rfl) rfl ?_; clear hK; intro w9 b9 hK))
          | ((with_reducible refine wl_at (o := ⟨none, .store 38 _ _, _, _, _, _⟩) ?_)
             go_must (refine wl_storeWK (vs := Go.Sk.Move.cells mvZ) hK rfl rfl rfl rfl (aggS (by decide)) (move_one _) (h := ?_); clear hK; intro w' hK; simp only [List.set_cons_zero, List.set_cons_succ] at hK))
          | go_big_skip
          | go_big_skip
          | ((with_reducible refine wl_at (o := ⟨_, .load _ _, _, _, _, _⟩) ?_)
             first
               | refine wl_loadK hK rfl rfl rfl (scalT (by decide)) (h := ?_)
               | refine wl_loadSK hK rfl rfl rfl (aggT (by decide)) (h := ?_)
               | refine wl_loadA0 rfl rfl rfl (scalT (by decide)) (h := ?_)
               | refine wl_loadA rfl rfl rfl (scalT (by decide)) (h := ?_)
               | refine wl_loadSA rfl rfl rfl (aggT (by decide)) (h := ?_))
          | (with_reducible refine atEnd_mk (by kernel_rfl) ?_))
        go_roundg (l.length - (j + 1))
        case measure => omega
        case rel => exact ⟨j + 1, [], by go_num, rfl, by omega, hK.sub (.cons _ (.cons _ (List.Sublist.refl _)))⟩
      · have e0 : decide (t.robot = 0) = true := decide_eq_true h0
        have e0' : (t.robot == 0) = true := beq_iff_eq.2 h0
        have e1 : decide (t.kind = 1) = false := decide_eq_false h1
        have e1' : (t.kind == 1) = false := beq_eq_false_iff_ne.2 h1
        have e2 : decide (t.kind = 2) = true := decide_eq_true h2
        have e2' : (t.kind == 2) = true := beq_iff_eq.2 h2
        have kH := Lib.hid (fun (W : World) (h : Has W (rROB rcP 0 p (RM.start poseO))) => rb_hear_none (t := { t with robot := 1 }) h (.inl (by show (1 : Int) ≠ 0; decide)))
        clear h0 h1 h2
        go_wp2_with (first
          | ((with_reducible refine wl_at (o := ⟨some 34, _, _, _, _, _⟩) ?_)
             go_must (refine wl_ixK hK rfl rfl rfl rfl teleTy.und teleTy.size (h := ?_); intro b34 k34 hat34))
          | ((with_reducible refine wl_at (o := ⟨some 6, .alloc _, _, _, _, _⟩) ?_)
             go_must (refine wl_allocK (z := .agg (teleZ).toArray) (zs := teleZ) hK rfl rfl (by kernel_rfl) rfl ?_; clear hK; intro w6 b6 hK))
          | ((with_reducible refine wl_at (o := ⟨none, .store 40 _ _, _, _, _, _⟩) ?_)
             go_must (refine wl_storeWK (vs := Tele.cells t) hK rfl rfl rfl rfl (aggS (by decide)) (elTele.one t) (h := ?_); clear hK; intro w' hK; simp only [List.set_cons_zero, List.set_cons_succ] at hK))
          | ((with_reducible refine wl_at (o := ⟨none, .store 3 (.tmp 49) _, _, _, _, _⟩) ?_); go_must (refine wl_storeK hK rfl rfl rfl rfl (sizT (by decide)) rfl (hk := by simp [Tele.cells]) (h := ?_); clear hK; intro w' hK; replace hK : Know w w' none' [rBlk b6 (Tele.cells { t with robot := 1 }) 40, rROB rcP 0 p (RM.start poseO), rOw 36 elPose (.slice adc 1 1) [poseO]] [rRd elTele (.slice sa l.length sc) l, stepsR] := hK))
          | (go_at_call 8; go_must (refine (hK.quiet (kH.out _ hK.own)).mono ?_; clear hK; rintro e w' ⟨rfl, hK⟩))
          | (go_at_call 9; go_must (refine (hK.quiet (rb_now (r := RM.start poseO) hK.own)).mono ?_; clear hK; rintro e w' ⟨rfl, hK⟩))
          | (go_at_call 10; go_must (refine (hK.quiet (rb_epoch (r := RM.start poseO) hK.own)).mono ?_; clear hK; rintro e w' ⟨rfl, hK⟩))
          | ((with_reducible refine wl_at (o := ⟨some 9, .alloc _, _, _, _, _⟩) ?_)
             go_must (refine wl_allocK (z := .agg (moveZ).toArray) (zs := moveZ) hK rfl rfl (by kernel_rfl) rfl ?_; clear hK; intro w9 b9 hK))
          | ((with_reducible refine wl_at (o := ⟨none, .store 38 _ _, _, _, _, _⟩) ?_)
             go_must (refine wl_storeWK (vs := Go.Sk.Move.cells mvZ) hK rfl rfl rfl rfl (aggS (by decide)) (move_one _) (h := ?_); clear hK; intro w' hK; simp only [List.set_cons_zero, List.set_cons_succ] at hK))
          | go_big_skip
          | go_big_skip
          | ((with_reducible refine wl_at (o := ⟨_, .load _ _, _, _, _, _⟩) ?_)
             first
               | refine wl_loadK hK rfl rfl rfl (scalT (by decide)) (h := ?_)
               | refine wl_loadSK hK rfl rfl rfl (aggT (by decide)) (h := ?_)
               | refine wl_loadA0 rfl rfl rfl (scalT (by decide)) (h := ?_)
               | refine wl_loadA rfl rfl rfl (scalT (by decide)) (h := ?_)
               | refine wl_loadSA rfl rfl rfl (aggT (by decide)) (h := ?_))
          | (with_reducible refine atEnd_mk (by kernel_rfl) ?_))
        go_roundg (l.length - (j + 1))
        case measure => omega
        case rel => exact ⟨j + 1, [], by go_num, rfl, by omega, hK.sub (.cons _ (.cons _ (List.Sublist.refl _)))⟩
      · have e0 : decide (t.robot = 0) = true := decide_eq_true h0
        have e0' : (t.robot == 0) = true := beq_iff_eq.2 h0
        have e1 : decide (t.kind = 1) = false := decide_eq_false h1
        have e1' : (t.kind == 1) = false := beq_eq_false_iff_ne.2 h1
        have e2 : decide (t.kind = 2) = false := decide_eq_false h2
        have e2' : (t.kind == 2) = false := beq_eq_false_iff_ne.2 h2
        have kH := Lib.hid (fun (W : World) (h : Has W (rROB rcP 0 p (RM.start poseO))) => rb_hear_none (t := t) h (.inr ⟨h1, h2⟩))
        clear h0 h1 h2
        go_wp2_with (first
          | ((with_reducible refine wl_at (o := ⟨some 34, _, _, _, _, _⟩) ?_)
             go_must (refine wl_ixK hK rfl rfl rfl rfl teleTy.und teleTy.size (h := ?_); intro b34 k34 hat34))
          | ((with_reducible refine wl_at (o := ⟨some 6, .alloc _, _, _, _, _⟩) ?_)
             go_must (refine wl_allocK (z := .agg (teleZ).toArray) (zs := teleZ) hK rfl rfl (by kernel_rfl) rfl ?_; clear hK; intro w6 b6 hK))
          | ((with_reducible refine wl_at (o := ⟨none, .store 40 _ _, _, _, _, _⟩) ?_)
             go_must (refine wl_storeWK (vs := Tele.cells t) hK rfl rfl rfl rfl (aggS (by decide)) (elTele.one t) (h := ?_); clear hK; intro w' hK; simp only [List.set_cons_zero, List.set_cons_succ] at hK))
          | (go_at_call 8; go_must (refine (hK.quiet (kH.out _ hK.own)).mono ?_; clear hK; rintro e w' ⟨rfl, hK⟩))
          | (go_at_call 9; go_must (refine (hK.quiet (rb_now (r := RM.start poseO) hK.own)).mono ?_; clear hK; rintro e w' ⟨rfl, hK⟩))
          | (go_at_call 10; go_must (refine (hK.quiet (rb_epoch (r := RM.start poseO) hK.own)).mono ?_; clear hK; rintro e w' ⟨rfl, hK⟩))
          | ((with_reducible refine wl_at (o := ⟨some 9, .alloc _, _, _, _, _⟩) ?_)
             go_must (refine wl_allocK (z := .agg (moveZ).toArray) (zs := moveZ) hK rfl rfl (by kernel_rfl) rfl ?_; clear hK; intro w9 b9 hK))
          | ((with_reducible refine wl_at (o := ⟨none, .store 38 _ _, _, _, _, _⟩) ?_)
             go_must (refine wl_storeWK (vs := Go.Sk.Move.cells mvZ) hK rfl rfl rfl rfl (aggS (by decide)) (move_one _) (h := ?_); clear hK; intro w' hK; simp only [List.set_cons_zero, List.set_cons_succ] at hK))
          | go_big_skip
          | go_big_skip
          | ((with_reducible refine wl_at (o := ⟨_, .load _ _, _, _, _, _⟩) ?_)
             first
               | refine wl_loadK hK rfl rfl rfl (scalT (by decide)) (h := ?_)
               | refine wl_loadSK hK rfl rfl rfl (aggT (by decide)) (h := ?_)
               | refine wl_loadA0 rfl rfl rfl (scalT (by decide)) (h := ?_)
               | refine wl_loadA rfl rfl rfl (scalT (by decide)) (h := ?_)
               | refine wl_loadSA rfl rfl rfl (aggT (by decide)) (h := ?_))
          | (with_reducible refine atEnd_mk (by kernel_rfl) ?_))
        go_roundg (l.length - (j + 1))
        case measure => omega
        case rel => exact ⟨j + 1, [], by go_num, rfl, by omega, hK.sub (.cons _ (.cons _ (List.Sublist.refl _)))⟩
      · have e0 : decide (t.robot = 0) = false := decide_eq_false h0
        have e0' : (t.robot == 0) = false := beq_eq_false_iff_ne.2 h0
        have kH := Lib.hid (fun (W : World) (h : Has W (rROB rcP 0 p (RM.start poseO))) => rb_hear_none (t := t) h (.inl h0))
        clear h0
        go_wp2_with (first
          | ((with_reducible refine wl_at (o := ⟨some 34, _, _, _, _, _⟩) ?_)
             go_must (refine wl_ixK hK rfl rfl rfl rfl teleTy.und teleTy.size (h := ?_); intro b34 k34 hat34))
          | ((with_reducible refine wl_at (o := ⟨some 6, .alloc _, _, _, _, _⟩) ?_)
             go_must (refine wl_allocK (z := .agg (teleZ).toArray) (zs := teleZ) hK rfl rfl (by kernel_rfl) rfl ?_; clear hK; intro w6 b6 hK))
          | ((with_reducible refine wl_at (o := ⟨none, .store 40 _ _, _, _, _, _⟩) ?_)
             go_must (refine wl_storeWK (vs := Tele.cells t) hK rfl rfl rfl rfl (aggS (by decide)) (elTele.one t) (h := ?_); clear hK; intro w' hK; simp only [List.set_cons_zero, List.set_cons_succ] at hK))
          | (go_at_call 8; go_must (refine (hK.quiet (kH.out _ hK.own)).mono ?_; clear hK; rintro e w' ⟨rfl, hK⟩))
          | (go_at_call 9; go_must (refine (hK.quiet (rb_now (r := RM.start poseO) hK.own)).mono ?_; clear hK; rintro e w' ⟨rfl, hK⟩))
          | (go_at_call 10; go_must (refine (hK.quiet (rb_epoch (r := RM.start poseO) hK.own)).mono ?_; clear hK; rintro e w' ⟨rfl, hK⟩))
          | ((with_reducible refine wl_at (o := ⟨some 9, .alloc _, _, _, _, _⟩) ?_)
             go_must (refine wl_allocK (z := .agg (moveZ).toArray) (zs := moveZ) hK rfl rfl (by kernel_rfl) rfl ?_; clear hK; intro w9 b9 hK))
          | ((with_reducible refine wl_at (o := ⟨none, .store 38 _ _, _, _, _, _⟩) ?_)
             go_must (refine wl_storeWK (vs := Go.Sk.Move.cells mvZ) hK rfl rfl rfl rfl (aggS (by decide)) (move_one _) (h := ?_); clear hK; intro w' hK; simp only [List.set_cons_zero, List.set_cons_succ] at hK))
          | go_big_skip
          | go_big_skip
          | ((with_reducible refine wl_at (o := ⟨_, .load _ _, _, _, _, _⟩) ?_)
             first
               | refine wl_loadK hK rfl rfl rfl (scalT (by decide)) (h := ?_)
               | refine wl_loadSK hK rfl rfl rfl (aggT (by decide)) (h := ?_)
               | refine wl_loadA0 rfl rfl rfl (scalT (by decide)) (h := ?_)
               | refine wl_loadA rfl rfl rfl (scalT (by decide)) (h := ?_)
               | refine wl_loadSA rfl rfl rfl (aggT (by decide)) (h := ?_))
          | (with_reducible refine atEnd_mk (by kernel_rfl) ?_))
        go_roundg (l.length - (j + 1))
        case measure => omega
        case rel => exact ⟨j + 1, [], by go_num, rfl, by omega, hK.sub (.cons _ (.cons _ (List.Sublist.refl _)))⟩
    · have hend : ¬ j < l.length ∨ (j < l.length ∧ ¬ j < 60) := by omega
      rcases hend with he | ⟨he, he2⟩
      all_goals
        go_wp2_with (first
          | (go_at_call 11; go_must (refine (hK.quiet (awake_calls hK.lent)).mono ?_; clear hK; rintro e w' ⟨rfl, hK⟩))
          | go_big_skip
          | go_big_skip
          | ((with_reducible refine wl_at (o := ⟨_, .load _ _, _, _, _, _⟩) ?_)
             first
               | refine wl_loadK hK rfl rfl rfl (scalT (by decide)) (h := ?_)
               | refine wl_loadSK hK rfl rfl rfl (aggT (by decide)) (h := ?_)
               | refine wl_loadA0 rfl rfl rfl (scalT (by decide)) (h := ?_)
               | refine wl_loadA rfl rfl rfl (scalT (by decide)) (h := ?_)
               | refine wl_loadSA rfl rfl rfl (aggT (by decide)) (h := ?_))
          | (with_reducible refine atEnd_mk (by kernel_rfl) ?_))
        go_ret
        exact ⟨rfl, hK.mod⟩
end Go.Proofs.YtcjpnlplibaffaaDoor
