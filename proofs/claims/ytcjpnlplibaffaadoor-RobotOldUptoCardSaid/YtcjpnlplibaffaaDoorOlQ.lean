/- RobotOld. -/
import Derived.Test.YtcjpnlplibaffaaDoorDeQ
set_option linter.all false
namespace Go.Proofs.YtcjpnlplibaffaaDoor
open Go Go.Sk Go.RowKit
set_option maxRecDepth 100000

theorem old_stop {p : Nat} {E : Int} {r1 : RM} {w0 w : World} {F : Nat → Prop} {M L : List Res} (h : Know w0 w F (rROB rcP 0 p (RM.start poseO) :: M) L) (hE : 0 < E) (hr : Hid (({ RM.start poseO with epoch := E, num := 0 } : RM) = r1)) : Calls Tryd.prog 8 #[.pointer (some ⟨p, 0, none⟩), .agg (Tele.cells ⟨2, 0, E, 0, mvZ, poseO, 0⟩).toArray] w fun e w' =>
    ∃ ad, e = .returned (.tuple #[.slice ad 1 1, .int .i64 3]) ∧ Know w0 w' F (rOw 40 elTele (.slice ad 1 1) [r1.tell 0] :: rROB rcP 0 p r1 :: M) L := by
  have hr := hr.out
  subst hr
  exact Know.callsT h (V := fun ad => .tuple #[.slice ad 1 1, .int .i64 3]) (X := fun ad => rOw 40 elTele (.slice ad 1 1) [({ RM.start poseO with epoch := E, num := 0 } : RM).tell 0]) (r' := rROB rcP 0 p { RM.start poseO with epoch := E, num := 0 }) (fun S hS => rb_hear_stand (t := ⟨2, 0, E, 0, mvZ, poseO, 0⟩) (e := E) hS rfl rfl rfl rfl hE (Int.le_refl _))

set_option maxHeartbeats 4000000 in
theorem old_calls {a : Int} {sv : Value} {l : List Tele} {w : World} (hst : Has w stepsR) {R1 : Prop} (_ : R1) (hl : Rd w elTele sv l) (_hlen : l.length ≤ 1048576) {R2 : Prop} (_ : R2) : Calls Tryd.prog 4 #[.int .i64 a, sv] w (Ret (.bool true) w) := by
  have hK : Know w w none' [] [rRd elTele sv l, stepsR] := Know.start (L := [rRd elTele sv l, stepsR]) w (by
    intro r hr
    simp only [List.mem_cons, List.not_mem_nil, or_false] at hr
    rcases hr with rfl | rfl
    · exact hl.has
    · exact hst)
  obtain ⟨sa, sc, rfl⟩ := hl.vee
  clear hst hl
  obtain ⟨q, hq⟩ : ∃ q, a % 1099511627776 = q := ⟨_, rfl⟩
  have hq1 : 0 ≤ q ∧ q < 1099511627776 := by omega
  have kPl := Lib.hid (fun (W : World) => show Calls Tryd.prog 12 #[.int .i64 a, .int .i64 1099511627776] W fun e w' => e = .returned (.int .i64 q) ∧ w' = W from
    (Place_calls a 1099511627776 W (by omega) (by omega)).mono fun e w' h => ⟨by rw [h.1, hq], h.2.symm⟩)
  obtain ⟨E, hE⟩ : ∃ E, 1 + q = E := ⟨_, rfl⟩
  have hE1 : 0 < E ∧ E ≤ 1099511627776 := by omega
  obtain ⟨r1, hr1⟩ : ∃ r1, ({ RM.start poseO with epoch := E, num := 0 } : RM) = r1 := ⟨_, rfl⟩
  have HR1 := Lib.hid hr1
  have HRE := Lib.hid (show r1.epoch = E by rw [← hr1])
  have HRU := Lib.hid (show r1.under = none by rw [← hr1]; rfl)
  have HRP := Lib.hid (show r1.pose = poseO by rw [← hr1]; rfl)
  obtain ⟨hq2, hq3⟩ := hq1
  obtain ⟨hE2, hE3⟩ := hE1
  clear hq hr1
  go_enter Tryd.func4, Tryd.ntmps4
  go_wp2_with (first
    | (go_at_call 12; go_must (refine (hK.quiet ((kPl.out _).mono (fun e w' h => ⟨h.1, by rw [h.2]; exact Mod.refl _ _⟩))).mono ?_; clear hK; rintro e w' ⟨rfl, hK⟩))
    | (go_at_call 7; go_must (refine conf_calls.mono ?_; rintro e w' ⟨adc, rfl, hT⟩; replace hK := hK.push1 hT; clear hT))
    | (go_at_call 6; go_must (refine (rc_new hK.own hK.lent).mono ?_; rintro e w' ⟨p, rfl, hT⟩; replace hK := hK.push1 hT; clear hT))
    | (go_at_call 8; go_must (refine (old_stop hK hE2 HR1).mono ?_; clear hK; rintro e w' ⟨adt, rfl, hK⟩))
    | go_big_skip
    | go_big_skip
    | ((with_reducible refine wl_at (o := ⟨_, .load _ _, _, _, _, _⟩) ?_)
       first
         | refine wl_loadK hK rfl rfl rfl (scalT (by decide)) (h := ?_)
         | refine wl_loadSK hK rfl rfl rfl (aggT (by decide)) (h := ?_)
         | refine wl_loadA0 rfl rfl rfl (scalT (by decide)) (h := ?_)
         | refine wl_loadA rfl rfl rfl (scalT (by decide)) (h := ?_)
         | refine wl_loadSA rfl rfl rfl (aggT (by decide)) (h := ?_))
    | (with_reducible refine atEnd_mk (by kernel_rfl) ?_))
  go_loopg [7, 8, 9, 10, 11, 12] l.length (fun k i _ _ _ _ _ wr => ∃ (j : Nat) (Z : List Res), i = .int .i64 j ∧ k = l.length - j ∧ j ≤ l.length ∧
    Know w wr none' [rROB rcP 0 p r1, rOw 36 elPose (.slice adc 1 1) [poseO]] [rRd elTele (.slice sa l.length sc) l, stepsR])
  case atStart => exact ⟨0, [], rfl, by omega, by omega, hK.sub (.cons _ (List.Sublist.refl _))⟩
  case round =>
    clear hK
    obtain ⟨j, _, rfl, rfl, hj, hK⟩ := hrel
    by_cases hlt : j < l.length ∧ j < 40
    · obtain ⟨hlt, hlt2⟩ := hlt
      obtain ⟨t, ht⟩ : ∃ t, l[j]? = some t := ⟨_, List.getElem?_eq_getElem hlt⟩
      have HT := Lib.hid ht
      clear ht
      obtain ⟨z, hz⟩ : ∃ z, t.epoch % E = z := ⟨_, rfl⟩
      have hz1 : z < E := by rw [← hz]; exact Int.emod_lt_of_pos _ hE2
      have kPz := Lib.hid (fun (W : World) => show Calls Tryd.prog 12 #[.int .i64 t.epoch, .int .i64 E] W fun e w' => e = .returned (.int .i64 z) ∧ w' = W from
        (Place_calls t.epoch E W (by omega) (by omega)).mono fun e w' h => ⟨by rw [h.1, hz], h.2.symm⟩)
      have kH := Lib.hid (fun (W : World) (h : Has W (rROB rcP 0 p r1)) => rb_hear_old (t := { t with kind := 1, robot := 0, epoch := z }) h rfl rfl (by rw [HRE.out]; exact hz1))
      have kT := Lib.hid (fun (W : World) (h : Has W (rROB rcP 0 p r1)) => rb_tick_none h HRU.out)
      have kP := Lib.hid (fun (W : World) (h : Has W (rROB rcP 0 p r1)) => rb_pose h)
      rw [HRP.out] at kP
      clear hz
      go_wp2_with (first
        | ((with_reducible refine wl_at (o := ⟨some 43, _, _, _, _, _⟩) ?_)
           go_must (refine wl_ixK hK rfl rfl rfl rfl teleTy.und teleTy.size (h := ?_); intro b43 k43 hat43))
        | ((with_reducible refine wl_at (o := ⟨some 8, .alloc _, _, _, _, _⟩) ?_)
           go_must (refine wl_allocK (z := .agg (teleZ).toArray) (zs := teleZ) hK rfl rfl (by kernel_rfl) rfl ?_; clear hK; intro w8 b8 hK))
        | ((with_reducible refine wl_at (o := ⟨none, .store 40 _ _, _, _, _, _⟩) ?_)
           go_must (refine wl_storeWK (vs := Tele.cells t) hK rfl rfl rfl rfl (aggS (by decide)) (elTele.one t) (h := ?_); clear hK; intro w' hK; simp only [List.set_cons_zero, List.set_cons_succ] at hK))
        | ((with_reducible refine wl_at (o := ⟨none, .store 3 (.tmp 45) _, _, _, _, _⟩) ?_); go_must (refine wl_storeK hK rfl rfl rfl rfl (sizT (by decide)) rfl (hk := by simp [Tele.cells]) (h := ?_); clear hK; intro w' hK; replace hK : Know w w' none' [rBlk b8 (Tele.cells { t with kind := 1 }) 40, rROB rcP 0 p r1, rOw 36 elPose (.slice adc 1 1) [poseO]] [rRd elTele (.slice sa l.length sc) l, stepsR] := hK))
        | ((with_reducible refine wl_at (o := ⟨none, .store 3 (.tmp 46) _, _, _, _, _⟩) ?_); go_must (refine wl_storeK hK rfl rfl rfl rfl (sizT (by decide)) rfl (hk := by simp [Tele.cells]) (h := ?_); clear hK; intro w' hK; replace hK : Know w w' none' [rBlk b8 (Tele.cells { t with kind := 1, robot := 0 }) 40, rROB rcP 0 p r1, rOw 36 elPose (.slice adc 1 1) [poseO]] [rRd elTele (.slice sa l.length sc) l, stepsR] := hK))
        | ((with_reducible refine wl_at (o := ⟨none, .store 3 (.tmp 51) _, _, _, _, _⟩) ?_); go_must (refine wl_storeK hK rfl rfl rfl rfl (sizT (by decide)) rfl (hk := by simp [Tele.cells]) (h := ?_); clear hK; intro w' hK; replace hK : Know w w' none' [rBlk b8 (Tele.cells { t with kind := 1, robot := 0, epoch := z }) 40, rROB rcP 0 p r1, rOw 36 elPose (.slice adc 1 1) [poseO]] [rRd elTele (.slice sa l.length sc) l, stepsR] := hK))
        | (go_at_call 12; go_must (refine (hK.quiet ((kPz.out _).mono (fun e w' h => ⟨h.1, by rw [h.2]; exact Mod.refl _ _⟩))).mono ?_; clear hK; rintro e w' ⟨rfl, hK⟩))
        | (go_at_call 8; go_must (refine (hK.quiet (kH.out _ hK.own)).mono ?_; clear hK; rintro e w' ⟨rfl, hK⟩))
        | (go_at_call 13; go_must (refine (hK.quiet (kT.out _ hK.own)).mono ?_; clear hK; rintro e w' ⟨rfl, hK⟩))
        | (go_at_call 14; go_must (refine (hK.quiet (kP.out _ hK.own)).mono ?_; clear hK; rintro e w' ⟨rfl, hK⟩))
        | ((with_reducible refine wl_at (o := ⟨some 11, .alloc _, _, _, _, _⟩) ?_)
           go_must (refine wl_allocK (z := .agg (moveZ).toArray) (zs := moveZ) hK rfl rfl (by kernel_rfl) rfl ?_; clear hK; intro w11 b11 hK))
        | ((with_reducible refine wl_at (o := ⟨none, .store 38 _ _, _, _, _, _⟩) ?_)
           go_must (refine wl_storeWK (vs := Go.Sk.Move.cells mvZ) hK rfl rfl rfl rfl (aggS (by decide)) (move_one _) (h := ?_); clear hK; intro w' hK; simp only [List.set_cons_zero, List.set_cons_succ] at hK))
        | ((with_reducible refine wl_at (o := ⟨some 72, _, _, _, _, _⟩) ?_); go_must (refine wl_neqM mvZ mvZ moveEq rfl rfl rfl rfl ?_))
        | ((with_reducible refine wl_at (o := ⟨some 81, _, _, _, _, _⟩) ?_); go_must (refine wl_neqP poseO poseO poseEq rfl rfl rfl rfl ?_))
        | go_big_skip
        | go_big_skip
        | ((with_reducible refine wl_at (o := ⟨_, .load _ _, _, _, _, _⟩) ?_)
           first
             | refine wl_loadK hK rfl rfl rfl (scalT (by decide)) (h := ?_)
             | refine wl_loadSK hK rfl rfl rfl (aggT (by decide)) (h := ?_)
             | refine wl_loadA0 rfl rfl rfl (scalT (by decide)) (h := ?_)
             | refine wl_loadA rfl rfl rfl (scalT (by decide)) (h := ?_)
             | refine wl_loadSA rfl rfl rfl (aggT (by decide)) (h := ?_))
        | (with_reducible refine atEnd_mk (by kernel_rfl) ?_))
      go_roundg (l.length - (j + 1))
      case measure => omega
      case rel => exact ⟨j + 1, [], by go_num, rfl, by omega, hK.sub (.cons _ (.cons _ (List.Sublist.refl _)))⟩
    · have hend : ¬ j < l.length ∨ (j < l.length ∧ ¬ j < 40) := by omega
      rcases hend with he | ⟨he, he2⟩
      all_goals
        go_wp2_with (first
          | (go_at_call 11; go_must (refine (hK.quiet (awake_calls hK.lent)).mono ?_; clear hK; rintro e w' ⟨rfl, hK⟩))
          | go_big_skip
          | go_big_skip
          | ((with_reducible refine wl_at (o := ⟨_, .load _ _, _, _, _, _⟩) ?_)
             first
               | refine wl_loadK hK rfl rfl rfl (scalT (by decide)) (h := ?_)
               | refine wl_loadSK hK rfl rfl rfl (aggT (by decide)) (h := ?_)
               | refine wl_loadA0 rfl rfl rfl (scalT (by decide)) (h := ?_)
               | refine wl_loadA rfl rfl rfl (scalT (by decide)) (h := ?_)
               | refine wl_loadSA rfl rfl rfl (aggT (by decide)) (h := ?_))
          | (with_reducible refine atEnd_mk (by kernel_rfl) ?_))
        go_ret
        exact ⟨rfl, hK.mod⟩
end Go.Proofs.YtcjpnlplibaffaaDoor
