/- RobotThere. -/
import Derived.Test.YtcjpnlplibaffaaGreatDoorDlQ
import Derived.Test.YtcjpnlplibaffaaGreatDoorSkBackQ
set_option linter.all false
namespace Go.Proofs.YtcjpnlplibaffaaGreatDoor
open Go Go.Sk Go.RowKit
set_option maxRecDepth 100000

/-- What holds between the ways: there, and back. -/
def thereRel (c : ConfP) (u : Pose) (j : Nat) (nm : Int) (P : Pose) (M : Go.Sk.Move) : Prop :=
  WfP P ∧ (j < 2 → GosOk c P M) ∧ (j < 2 → nm = (j : Int) + 1) ∧ (j = 0 → P = u) ∧ (j = 1 → M.dst = u) ∧ (j = 2 → P = u)
theorem back_gos {c : ConfP} {P : Pose} {M : Go.Sk.Move} (hm : MayP c) (h : GosOk c P M) : GosOk c M.dst (backM M (5 + lastsP c M)) :=
  ⟨back_legal (nums_iff.1 hm.nums) h.legal, rfl, h.kind, ⟨by show (0 : Int) ≤ 5; omega, by show (5 : Int) ≤ 999; omega⟩, rfl⟩
theorem back_dst {c : ConfP} {P : Pose} {M : Go.Sk.Move} (_hm : MayP c) (h : GosOk c P M) (E : Int) : (backM M E).dst = P := h.src
theorem there_step {c : ConfP} {u P : Pose} {j : Nat} {nm E : Int} {M : Go.Sk.Move} (h : thereRel c u j nm P M) (hj : j < 2) (hd : WfP M.dst) (hg : GosOk c M.dst (backM M E)) (hb : (backM M E).dst = P) : Hid (thereRel c u (j + 1) 2 M.dst (backM M E)) := by
  obtain ⟨_, _, _, h0, h1, _⟩ := h
  refine ⟨hd, fun _ => hg, fun hj2 => ?_, fun h => by omega, fun h => ?_, fun h => h1 (by omega)⟩
  · have : j = 0 := by omega
    subst this
    rfl
  · rw [hb]; exact h0 (by omega)

open Classical in
set_option maxHeartbeats 8000000 in
theorem there_calls {c : ConfV} {pick : Int} {w : World} (hc : Has w (rConf c)) (hst : Has w stepsR) (hu : Upto c) (hwf : ∀ p ∈ c.robots.l, PoseWf p) (_hp : -9223372036854775808 ≤ pick ∧ pick ≤ 9223372036854775807) :
    Calls Tryz.prog 4 #[.agg c.cells.toArray, .int .i64 pick] w (Ret (.bool true) w) := by
  have hK : Know w w none' [] [rConf c, stepsR] := Know.start (L := [rConf c, stepsR]) w (by
    intro r hr
    simp only [List.mem_cons, List.not_mem_nil, or_false] at hr
    rcases hr with rfl | rfl
    · exact hc
    · exact hst)
  clear hc hst
  obtain ⟨sm, hsm⟩ : ∃ sm, decide (smallB c.p) = sm := ⟨_, rfl⟩
  have HS := Lib.hid hsm
  cases sm with
  | false =>
    clear hsm
    go_enter Tryz.func4, Tryz.ntmps4
    go_wp2_with (first
      | ((with_reducible refine wl_at (o := ⟨some 2, .box _ _, _, _, _, _⟩) ?_)
         go_must (refine wl_boxK hK rfl rfl rfl rfl ?_; clear hK; intro w2 b2 hK))
      | (go_at_call 8; go_must (refine (hK.quiet (kn_small HS.out hu hK.lent)).mono ?_; clear hK; rintro e w' ⟨rfl, hK⟩))
      | (go_at_call 9; go_must (refine (hK.quiet (awake_calls hK.lent)).mono ?_; clear hK; rintro e w' ⟨rfl, hK⟩))
      | go_big_skip
      | go_big_skip
      | ((with_reducible refine wl_at (o := ⟨_, .load _ _, _, _, _, _⟩) ?_)
         first
           | refine wl_loadK hK rfl rfl rfl (scalT (by decide)) (h := ?_)
           | refine wl_loadSK hK rfl rfl rfl (aggT (by decide)) (h := ?_)
           | refine wl_loadA0 rfl rfl rfl (scalT (by decide)) (h := ?_)
           | refine wl_loadA rfl rfl rfl (scalT (by decide)) (h := ?_)
           | refine wl_loadSA rfl rfl rfl (aggT (by decide)) (h := ?_))
      | (with_reducible refine atEnd_mk (by kernel_rfl) ?_))
    go_ret
    exact ⟨rfl, hK.mod⟩
  | true =>
    have hm : MayP c.p := (of_decide_eq_true hsm).2.2.2.2.2.2.2
    clear hsm
    by_cases hrl : c.robots.l.length = 0
    · have d0 : ((c.robots.l.length : Int) == 0) = true := by rw [hrl]; rfl
      have d0' : decide ((c.robots.l.length : Int) = 0) = true := by rw [hrl]; rfl
      have HRL := Lib.hid hrl
      clear hrl
      go_enter Tryz.func4, Tryz.ntmps4
      go_wp2_with (first
        | ((with_reducible refine wl_at (o := ⟨some 2, .box _ _, _, _, _, _⟩) ?_)
           go_must (refine wl_boxK hK rfl rfl rfl rfl ?_; clear hK; intro w2 b2 hK))
        | (go_at_call 8; go_must (refine (hK.quiet (kn_small HS.out hu hK.lent)).mono ?_; clear hK; rintro e w' ⟨rfl, hK⟩))
        | (go_at_call 9; go_must (refine (hK.quiet (awake_calls hK.lent)).mono ?_; clear hK; rintro e w' ⟨rfl, hK⟩))
        | go_big_skip
        | go_big_skip
        | ((with_reducible refine wl_at (o := ⟨_, .load _ _, _, _, _, _⟩) ?_)
           first
             | refine wl_loadK hK rfl rfl rfl (scalT (by decide)) (h := ?_)
             | refine wl_loadSK hK rfl rfl rfl (aggT (by decide)) (h := ?_)
             | refine wl_loadA0 rfl rfl rfl (scalT (by decide)) (h := ?_)
             | refine wl_loadA rfl rfl rfl (scalT (by decide)) (h := ?_)
             | refine wl_loadSA rfl rfl rfl (aggT (by decide)) (h := ?_))
        | (with_reducible refine atEnd_mk (by kernel_rfl) ?_))
      go_ret
      exact ⟨rfl, hK.mod⟩
    · obtain ⟨u, hu0⟩ : ∃ u, c.robots.l[0]? = some u := ⟨_, List.getElem?_eq_getElem (by omega)⟩
      have hpw := hwf u (List.mem_of_getElem? hu0)
      have HU := Lib.hid hu0
      have HM := Lib.hid hm
      have HW := Lib.hid hwf
      have d0 : ((c.robots.l.length : Int) == 0) = false := beq_eq_false_iff_ne.2 (by omega)
      have d0' : decide ((c.robots.l.length : Int) = 0) = false := decide_eq_false (by omega)
      have HOK := Lib.hid (RMOk.start (c := c.p) (p := u) ⟨hpw.x, hpw.y⟩)
      have hkin := Lib.hid (kinOf_ok hm)
      have kN := Lib.hid (fun (W : World) (h : Has W (rConf c)) => ref_new h hu0)
      have kG := Lib.hid (fun (W : World) (q : Nat) (h1 : Has W (rConf c)) (h2 : Has W (rBlk q ((R18.start 0 u).cells c) 70)) => show Calls Tryz.prog 13 #[.agg c.cells.toArray, .pointer (some ⟨q, 0, none⟩), .int .i64 pick, .int .i64 0] W fun e w' => ∃ m, e = .returned (.agg (Tele.cells ⟨1, 0, 0, 1, m, poseO, 0⟩).toArray) ∧ Hid (GosOk c.p u m) ∧ Mod none' W w' from gos_calls (r := R18.start 0 u) (n := pick) (late := 0) hm h1 h2 hu.sized hpw (home_fits hm hu0) (by simp [R18.start]))
      have HWU := Lib.hid (show WfP u from ⟨hpw.x, hpw.y⟩)
      clear hm hwf hu0 hrl hpw
      go_enter Tryz.func4, Tryz.ntmps4
      go_wp2_with (first
        | ((with_reducible refine wl_at (o := ⟨some 2, .box _ _, _, _, _, _⟩) ?_)
           go_must (refine wl_boxK hK rfl rfl rfl rfl ?_; clear hK; intro w2 b2 hK))
        | (go_at_call 8; go_must (refine (hK.quiet (kn_small HS.out hu hK.lent)).mono ?_; clear hK; rintro e w' ⟨rfl, hK⟩))
        | (go_at_call 11; go_must (refine (dup_calls (c := c) hK.lent hu).mono ?_; rintro e w' ⟨d, rfl, hd, hT⟩; replace hK := hK.push1 hT; have HD := Lib.hid hd; clear hT hd))
        | (go_at_call 10; go_must (refine (rb_newD HM.out HD.out hu HW.out HU.out hK.own hK.lent).mono ?_; rintro e w' ⟨p, rfl, hT⟩; replace hK := hK.push1 hT; clear hT))
        | go_big_skip
        | go_big_skip
        | ((with_reducible refine wl_at (o := ⟨_, .load _ _, _, _, _, _⟩) ?_)
           first
             | refine wl_loadK hK rfl rfl rfl (scalT (by decide)) (h := ?_)
             | refine wl_loadSK hK rfl rfl rfl (aggT (by decide)) (h := ?_)
             | refine wl_loadA0 rfl rfl rfl (scalT (by decide)) (h := ?_)
             | refine wl_loadA rfl rfl rfl (scalT (by decide)) (h := ?_)
             | refine wl_loadSA rfl rfl rfl (aggT (by decide)) (h := ?_))
        | (with_reducible refine atEnd_mk (by kernel_rfl) ?_))
      refine wp_region_floatK (id := 6) hK 5 [0, 1] [rBlk b2 c.cells 26] [0, 1, 2, 3, 4, 5, 6] [2, 4, 5, 6] (fun a a' w' => ∃ (b7 : Nat) (q : Value) (m : Go.Sk.Move), a' = (((((((a.put (some 39) (.agg c.cells.toArray)).put (some 40) (.agg c.cells.toArray)).put (some 41) q).put (some 42) (.int .i64 pick)).put (some 43) (.agg (Tele.cells ⟨1, 0, 0, 1, m, poseO, 0⟩).toArray)).put (some 7) (.pointer (some ⟨b7, 0, none⟩)))).put none undef ∧ Hid (GosOk c.p u m) ∧ Know w w' none' [rBlk b7 (Tele.cells ⟨1, 0, 0, 1, m, poseO, 0⟩) 43, rROB c.p 0 p (RM.start u), rBlk b2 c.cells 26] [rConf c, stepsR]) (by kernel_rfl) (by kernel_rfl) (by kernel_rfl) (by kernel_rfl) (by simp) (fun w' hK2 => ?_) (fun a' w' hI => ?_)
      · clear hK
        have hK := hK2
        clear hK2
        go_wp2_with (first
          | (with_reducible refine wpGB_loud 2 [5, 2, 3, 4, 6] (by decide) (by decide) (by decide) ?_ ?_)
          | (with_reducible refine wpGB_loud 4 [5, 4, 6] (by decide) (by decide) (by decide) ?_ ?_)
          | (with_reducible refine wpGB_here (i := 5) (by decide) ?_)
          | (with_reducible refine wpGB_soft (by decide) (by decide) ?_)
          | ((with_reducible refine stepU_at 0 ?_); go_must (refine stepU_loadSK (op_of rfl) (by decide) rfl rfl rfl (aggT (by decide)) (h := ?_); intro w' hM; replace hK := hK.same hM; clear hM))
          | ((with_reducible refine stepU_at 1 ?_); go_must (refine stepU_loadSK (op_of rfl) (by decide) rfl rfl rfl (aggT (by decide)) (h := ?_); intro w' hM; replace hK := hK.same hM; clear hM))
          | (with_reducible refine wpGI_of ?_)
          | ((with_reducible refine stepU_at _ ?_); go_must (refine stepU_of (op_of rfl) (by decide) ?_; intro w' hM; replace hK := hK.same hM; clear hM))
          | (with_reducible refine atEndC (hK.clsG (by simp)) ?_)
          | ((with_reducible refine wpGI_nil ?_); intro w' hM; replace hK := hK.same hM; clear hM; refine ⟨by kernel_rfl, ?_⟩; first | exact ⟨b7, .pointer (some ⟨q, 0, none⟩), m, by kernel_rfl, hg, hK.sub (.cons_cons _ (.cons _ (.cons_cons _ (.cons _ (.cons_cons _ .slnil)))))⟩ | exact ⟨b7, .pointer (some ⟨q, 0, none⟩), m, by kernel_rfl, hg, hK.sub (.cons _ (.cons_cons _ (.cons_cons _ (.cons _ (.cons_cons _ .slnil)))))⟩)
          | (go_at_call 14; go_must (refine (kN.out _ hK.lent).mono ?_; rintro e w' ⟨q, rfl, hT⟩; replace hK := hK.push1 hT; clear hT))
          | (go_at_call 13; go_must (refine (kG.out _ q hK.lent hK.own).mono ?_; rintro e w' ⟨m, rfl, hg, hM⟩; replace hK := hK.same hM; clear hM))
          | ((with_reducible refine wl_at (o := ⟨some 7, .alloc _, _, _, _, _⟩) ?_)
             go_must (refine wl_allocK (z := .agg (Tele.cells ⟨0, 0, 0, 0, mvZ, poseO, 0⟩).toArray) (zs := Tele.cells ⟨0, 0, 0, 0, mvZ, poseO, 0⟩) hK rfl rfl (by kernel_rfl) rfl ?_; clear hK; intro w7 b7 hK))
          | ((with_reducible refine wl_at (o := ⟨none, .store 43 _ _, _, _, _, _⟩) ?_)
             go_must (refine wl_storeWK (vs := Tele.cells ⟨1, 0, 0, 1, m, poseO, 0⟩) hK rfl rfl rfl rfl (aggS (by decide)) (elTele.one _) (h := ?_); clear hK; intro w' hK; simp only [List.set_cons_zero, List.set_cons_succ] at hK))
          | go_big_skip
          | go_big_skip
          | ((with_reducible refine wl_at (o := ⟨_, .load _ _, _, _, _, _⟩) ?_)
             first
               | refine wl_loadK hK rfl rfl rfl (scalT (by decide)) (h := ?_)
               | refine wl_loadSK hK rfl rfl rfl (aggT (by decide)) (h := ?_)
               | refine wl_loadA0 rfl rfl rfl (scalT (by decide)) (h := ?_)
               | refine wl_loadA rfl rfl rfl (scalT (by decide)) (h := ?_)
               | refine wl_loadSA rfl rfl rfl (aggT (by decide)) (h := ?_))
          | (with_reducible refine atEnd_mk (by kernel_rfl) ?_))
      · clear hK
        obtain ⟨b7, q, m, rfl, hg, hK⟩ := hI
        have kL := Lib.hid (fun (W : World) (m : Go.Sk.Move) => ref_lasts (c := c) (m := m) (w := W) hkin.out)
        have kLg := Lib.hid (fun (W : World) (m : Go.Sk.Move) (h : Has W (rConf c)) (hp : PoseWf m.src) (hl : legalP c.p m = true) => show Calls Tryz.prog 20 #[.agg c.cells.toArray, .agg m.cells.toArray] W (Ret (.bool true) W) from by
          have := ref_legal (c := c) (m := m) (w := W) h hu.sized hp
          rwa [hl] at this)
        clear kN kG
        go_wp2_with (first
          | go_big_skip
          | go_big_skip
          | ((with_reducible refine wl_at (o := ⟨_, .load _ _, _, _, _, _⟩) ?_)
             first
               | refine wl_loadK hK rfl rfl rfl (scalT (by decide)) (h := ?_)
               | refine wl_loadSK hK rfl rfl rfl (aggT (by decide)) (h := ?_)
               | refine wl_loadA0 rfl rfl rfl (scalT (by decide)) (h := ?_)
               | refine wl_loadA rfl rfl rfl (scalT (by decide)) (h := ?_)
               | refine wl_loadSA rfl rfl rfl (aggT (by decide)) (h := ?_))
          | (with_reducible refine atEnd_mk (by kernel_rfl) ?_))
        go_loopg [8, 9, 10, 11, 12, 13, 14, 15, 16] 2 (fun k i _ _ _ _ _ _ _ _ wr => ∃ (j : Nat) (nm : Int) (P : Pose) (M : Go.Sk.Move), i = .int .i64 j ∧ k = 2 - j ∧ j ≤ 2 ∧ Hid (thereRel c.p u j nm P M) ∧ Know w wr none' [rBlk b7 (Tele.cells ⟨1, 0, 0, nm, M, poseO, 0⟩) 43, rROB c.p 0 p ⟨P, 0, 0, j, none, false, 0⟩, rBlk b2 c.cells 26] [rConf c, stepsR])
        case atStart => exact ⟨0, 1, u, m, rfl, rfl, by omega, ⟨HWU.out, (fun _ => hg.out), (fun _ => rfl), (fun _ => rfl), (fun h => by cases h), (fun h => by cases h)⟩, hK⟩
        case round =>
          clear hK hg
          obtain ⟨j, nm, P, M, rfl, rfl, hj, hR, hK⟩ := hrel
          by_cases hlt : j < 2
          · obtain ⟨hwp, hg, hnm, _, _, _⟩ := hR.out
            replace hg := hg hlt
            replace hnm := hnm hlt
            subst hnm
            have HG := Lib.hid hg
            have HWP := Lib.hid hwp
            have hltI : (j : Int) < 2 := by omega
            obtain ⟨T, hT⟩ : ∃ T, lastsP c.p M = T := ⟨_, rfl⟩
            have hgw := goes_way (k := kinOf c.p) (num := (j : Int)) (r := ⟨P, 0, 0, j, none, false, 0⟩) HM.out hg rfl (by omega)
            have htb := lastsP_bd HM.out hg.legal
            rw [hT] at hgw htb
            have HWD := Lib.hid (legal_dst hg.legal (by rw [hg.src]; exact hwp))
            have hn16 := legalP_n hg.legal
            have hrk : RMOk c.p ⟨P, 0, 0, j, none, false, 0⟩ 1000 := ⟨⟨by simp, by simp only []; omega⟩, Int.le_refl _, ⟨Int.le_refl _, by simp⟩, hwp, (fun _ h => by cases h), (fun _ => ⟨rfl, rfl⟩), (fun h => by cases h)⟩
            have kH := Lib.hid (fun (W : World) (S : Nat → Prop) (h : Know W W S [rROB c.p 0 p ⟨P, 0, 0, j, none, false, 0⟩] [stepsR]) => rb_hear hrk (by omega) (by show M.n ≤ _; omega) hgw h)
            have HF := Lib.hid (show M.fin = M.at_ + T by rw [hg.fin, hT])
            have ha0 := hg.at_.1
            have ha1 := hg.at_.2
            have hf1 : M.at_ ≤ M.fin := by rw [HF.out]; omega
            have hf2 : M.fin ≤ 17000 := by rw [HF.out]; omega
            have kOK := Lib.hid (fun (k : Int) (hk : 0 ≤ k ∧ k < T) => way_ok (D := 0) (e := 0) (num := (j : Int)) hwp HWD.out hg (by omega) (by omega) htb ⟨Int.le_refl _, by omega⟩ ⟨hk.1, by omega⟩)
            have kTick := Lib.hid (fun (W : World) (S : Nat → Prop) (k : Int) (hk : 0 ≤ k ∧ k + 1 < T) (h : (rROB c.p 0 p (wayR P M 0 j T 0 k)).p W S) => rb_tick (kOK.out k (by omega)) (by omega) (way_tick hk.1 (by omega)) h)
            have kDone := Lib.hid (fun (W : World) (S : Nat → Prop) (k : Int) (hk : 0 ≤ k ∧ k + 1 = T) (h : (rROB c.p 0 p (wayR P M 0 j T 0 k)).p W S) => rb_tick (kOK.out k (by omega)) (by omega) (show (wayR P M 0 j T 0 k).tick = (⟨M.dst, 0, 0, j + 1, none, false, 0⟩, M, 1) from way_done (Int.le_refl _) htb.1 (by omega)) h)
            obtain ⟨t0, t1⟩ := htb
            have HT := Lib.hid hT
            clear hgw hT hrk hg hwp
            go_wp2_with (first
              | (go_at_call 15; go_must (refine (Know.hears hK (by repeat (first | exact Ix.head | apply Ix.tail)) (by simp) (fun S hS => kH.out _ S hS)).mono ?_; clear hK; rintro e w' ⟨adt, cpt, rfl, hK⟩; simp only [List.set_cons_zero, List.set_cons_succ] at hK))
              | go_big_skip
              | go_big_skip
              | ((with_reducible refine wl_at (o := ⟨_, .load _ _, _, _, _, _⟩) ?_)
                 first
                   | refine wl_loadK hK rfl rfl rfl (scalT (by decide)) (h := ?_)
                   | refine wl_loadSK hK rfl rfl rfl (aggT (by decide)) (h := ?_)
                   | refine wl_loadA0 rfl rfl rfl (scalT (by decide)) (h := ?_)
                   | refine wl_loadA rfl rfl rfl (scalT (by decide)) (h := ?_)
                   | refine wl_loadSA rfl rfl rfl (aggT (by decide)) (h := ?_))
              | (with_reducible refine atEnd_mk (by kernel_rfl) ?_))
            replace hK := hK.sub (.cons _ (List.Sublist.refl _))
            rw [show M.fin - M.at_ = T by rw [HF.out]; omega]
            go_loopg [12, 13, 14] (T.toNat) (fun k i _ _ wr => ∃ (q : Nat) (R : RM), i = .int .i64 ((q : Int) + 1) ∧ k = T.toNat - q ∧ (q : Int) ≤ T ∧ Hid (((q : Int) < T → R = wayR P M 0 j T 0 q) ∧ ((q : Int) = T → R = ⟨M.dst, 0, 0, j + 1, none, false, 0⟩)) ∧ Know w wr none' [rBlk b7 (Tele.cells ⟨1, 0, 0, j + 1, M, poseO, 0⟩) 43, rROB c.p 0 p R, rBlk b2 c.cells 26] [rConf c, stepsR])
            case atStart => exact ⟨0, _, rfl, by omega, by omega, ⟨(fun _ => rfl), (fun h => by omega)⟩, hK⟩
            case round =>
              clear hK
              obtain ⟨q, R, rfl, rfl, hq, hRq, hK⟩ := hrel
              by_cases hq1 : (q : Int) < T
              · have hR1 := hRq.out.1 hq1
                subst hR1
                have dl : decide ((q : Int) + 1 ≤ T) = true := decide_eq_true (by omega)
                by_cases hql : (q : Int) + 1 < T
                · have kTq := Lib.hid (fun (W : World) (S : Nat → Prop) (h : (rROB c.p 0 p (wayR P M 0 j T 0 q)).p W S) => kTick.out W S q (by omega) h)
                  have de : ((q : Int) + 1 == T) = false := beq_eq_false_iff_ne.2 (by omega)
                  have de' : decide ((q : Int) + 1 = T) = false := decide_eq_false (by omega)
                  go_wp2_with (first
                    | (go_at_call 17; go_must (refine (hK.callsI (fun S hS => kTq.out _ _ hS)).mono ?_; clear hK; rintro e w' ⟨rfl, hK⟩; simp only [List.set_cons_zero, List.set_cons_succ] at hK))
                    | ((with_reducible refine wl_at (o := ⟨some 13, .alloc _, _, _, _, _⟩) ?_)
                       go_must (refine wl_allocK (z := .agg (moveZ).toArray) (zs := moveZ) hK rfl rfl (by kernel_rfl) rfl ?_; clear hK; intro w13 b13 hK))
                    | ((with_reducible refine wl_at (o := ⟨none, .store 41 _ _, _, _, _, _⟩) ?_)
                       go_must (refine wl_storeWK (vs := Go.Sk.Move.cells mvZ) hK rfl rfl rfl rfl (aggS (by decide)) (move_one _) (h := ?_); clear hK; intro w' hK; simp only [List.set_cons_zero, List.set_cons_succ] at hK))
                    | go_big_skip
                    | go_big_skip
                    | ((with_reducible refine wl_at (o := ⟨_, .load _ _, _, _, _, _⟩) ?_)
                       first
                         | refine wl_loadK hK rfl rfl rfl (scalT (by decide)) (h := ?_)
                         | refine wl_loadSK hK rfl rfl rfl (aggT (by decide)) (h := ?_)
                         | refine wl_loadA0 rfl rfl rfl (scalT (by decide)) (h := ?_)
                         | refine wl_loadA rfl rfl rfl (scalT (by decide)) (h := ?_)
                         | refine wl_loadSA rfl rfl rfl (aggT (by decide)) (h := ?_))
                    | (with_reducible refine atEnd_mk (by kernel_rfl) ?_))
                  go_roundg (T.toNat - (q + 1))
                  case measure => omega
                  case rel => exact ⟨q + 1, _, by go_num, rfl, by omega, ⟨(fun _ => rfl), (fun h => by omega)⟩, hK.sub (.cons _ (List.Sublist.refl _))⟩
                · have hqe : (q : Int) + 1 = T := by omega
                  have kTq := Lib.hid (fun (W : World) (S : Nat → Prop) (h : (rROB c.p 0 p (wayR P M 0 j T 0 q)).p W S) => kDone.out W S q ⟨by omega, hqe⟩ h)
                  have de : ((q : Int) + 1 == T) = true := beq_iff_eq.2 hqe
                  have de' : decide ((q : Int) + 1 = T) = true := decide_eq_true hqe
                  have HQE := Lib.hid hqe
                  clear hqe
                  go_wp2_with (first
                    | (go_at_call 17; go_must (refine (hK.callsI (fun S hS => kTq.out _ _ hS)).mono ?_; clear hK; rintro e w' ⟨rfl, hK⟩; simp only [List.set_cons_zero, List.set_cons_succ] at hK))
                    | ((with_reducible refine wl_at (o := ⟨some 13, .alloc _, _, _, _, _⟩) ?_)
                       go_must (refine wl_allocK (z := .agg (moveZ).toArray) (zs := moveZ) hK rfl rfl (by kernel_rfl) rfl ?_; clear hK; intro w13 b13 hK))
                    | ((with_reducible refine wl_at (o := ⟨none, .store 41 _ _, _, _, _, _⟩) ?_)
                       go_must (refine wl_storeWK (vs := Go.Sk.Move.cells M) hK rfl rfl rfl rfl (aggS (by decide)) (move_one _) (h := ?_); clear hK; intro w' hK; simp only [List.set_cons_zero, List.set_cons_succ] at hK))
                    | ((with_reducible refine wl_at (o := ⟨some 86, .load _ _, _, _, _, _⟩) ?_); go_must (refine wl_loadPK (Go.Sk.Move.cells M) hK rfl rfl rfl (aggT (by decide)) (h := ?_)))
                    | ((with_reducible refine wl_at (o := ⟨some 87, _, _, _, _, _⟩) ?_); go_must (refine wl_neqMs M moveEq rfl rfl rfl rfl ?_))
                    | go_big_skip
                    | go_big_skip
                    | ((with_reducible refine wl_at (o := ⟨_, .load _ _, _, _, _, _⟩) ?_)
                       first
                         | refine wl_loadK hK rfl rfl rfl (scalT (by decide)) (h := ?_)
                         | refine wl_loadSK hK rfl rfl rfl (aggT (by decide)) (h := ?_)
                         | refine wl_loadA0 rfl rfl rfl (scalT (by decide)) (h := ?_)
                         | refine wl_loadA rfl rfl rfl (scalT (by decide)) (h := ?_)
                         | refine wl_loadSA rfl rfl rfl (aggT (by decide)) (h := ?_))
                    | (with_reducible refine atEnd_mk (by kernel_rfl) ?_))
                  go_roundg (T.toNat - (q + 1))
                  case measure => omega
                  case rel => exact ⟨q + 1, _, by go_num, rfl, by omega, ⟨(fun h => by have := HQE.out; omega), (fun _ => rfl)⟩, hK.sub (.cons _ (List.Sublist.refl _))⟩
              · have hqT : (q : Int) = T := by omega
                have hR1 := hRq.out.2 hqT
                subst hR1
                have HTL := Lib.hid (show RM.tell 0 ⟨M.dst, 0, 0, j + 1, none, false, 0⟩ = (⟨3, 0, 0, j + 1, mvZ, poseO, 0⟩ : Tele) from by
                  unfold RM.tell
                  rw [if_neg (by simp)])
                have HT0 := Lib.hid (show [(⟨3, 0, 0, j + 1, mvZ, poseO, 0⟩ : Tele)][0]? = some ⟨3, 0, 0, j + 1, mvZ, poseO, 0⟩ from rfl)
                have dl : decide ((q : Int) + 1 ≤ T) = false := decide_eq_false (by omega)
                have HQT := Lib.hid hqT
                clear hqT
                have HN := Lib.hid (show GosOk c.p M.dst (backM M (5 + T)) by have := back_gos HM.out HG.out; rwa [HT.out] at this)
                have HD := Lib.hid (back_dst HM.out HG.out (5 + T))
                by_cases hk1 : M.kind = 1
                · have dk : (M.kind == 1) = true := beq_iff_eq.2 hk1
                  have dk' : decide (M.kind = 1) = true := decide_eq_true hk1
                  have hdir := (legal_run HG.out.legal hk1).2.1
                  have HB := Lib.hid (show backM M (5 + T) = { M with src := M.dst, dst := M.src, dir := backD M.dir, at_ := 5, fin := 5 + T } by unfold backM; rw [if_pos hk1])
                  clear hk1
                  have kLx := Lib.hid (fun (W : World) => kL.out W { M with src := M.dst, dst := M.src, dir := backD M.dir, at_ := 5 })
                  rw [show lastsP c.p { M with src := M.dst, dst := M.src, dir := backD M.dir, at_ := 5 } = T from HT.out] at kLx
                  have kGx := Lib.hid (fun (W : World) (h : Has W (rConf c)) => kLg.out W { M with src := M.dst, dst := M.src, dir := backD M.dir, at_ := 5, fin := 5 + T } h ⟨HWD.out.x, HWD.out.y⟩ (by rw [← HB.out]; exact HN.out.legal))
                  go_wp2_with (first
                    | (go_at_call 18; go_must (refine (rb_tell hK.own).mono ?_; rintro e w' ⟨adt, rfl, hT⟩; replace hK := hK.push1 hT; clear hT; rw [HTL.out] at hK))
                    | ((with_reducible refine wl_at (o := ⟨some 97, _, _, _, _, _⟩) ?_); go_must (refine wl_ixK (i := 0) (u := (⟨3, 0, 0, j + 1, mvZ, poseO, 0⟩ : Tele)) hK rfl rfl rfl rfl teleTy18.und teleTy18.size (hu := HT0) (h := ?_); intro b97 k97 hat97))
                    | ((with_reducible refine wl_at (o := ⟨some 104, _, _, _, _, _⟩) ?_); go_must (refine wl_ixK (i := 0) (u := (⟨3, 0, 0, j + 1, mvZ, poseO, 0⟩ : Tele)) hK rfl rfl rfl rfl teleTy18.und teleTy18.size (hu := HT0) (h := ?_); intro b104 k104 hat104))
                    | ((with_reducible refine wl_at (o := ⟨some 112, .load _ _, _, _, _, _⟩) ?_); go_must (refine wl_loadPK (Go.Sk.Move.cells M) hK rfl rfl rfl (aggT (by decide)) (h := ?_)))
                    | ((with_reducible refine wl_at (o := ⟨some 16, .alloc _, _, _, _, _⟩) ?_)
                       go_must (refine wl_allocK (z := .agg (moveZ).toArray) (zs := moveZ) hK rfl rfl (by kernel_rfl) rfl ?_; clear hK; intro w16 b16 hK))
                    | ((with_reducible refine wl_at (o := ⟨none, .store 41 (.tmp 16) _, _, _, _, _⟩) ?_)
                       go_must (refine wl_storeWK (vs := Go.Sk.Move.cells M) hK rfl rfl rfl rfl (aggS (by decide)) (move_one _) (h := ?_); clear hK; intro w' hK; simp only [List.set_cons_zero, List.set_cons_succ] at hK))
                    | ((with_reducible refine wl_at (o := ⟨some 115, .load _ _, _, _, _, _⟩) ?_); go_must (refine wl_loadPK (Pose.cells M.dst) hK rfl rfl rfl (aggT (by decide)) (h := ?_)))
                    | ((with_reducible refine wl_at (o := ⟨none, .store 39 (.tmp 116) _, _, _, _, _⟩) ?_)
                       go_must (refine wl_storePK (n := 3) (Pose.cells M.dst) (Go.Sk.Move.cells { M with src := M.dst }) hK rfl rfl rfl rfl (aggS (by decide)) (pose_one _) (hk := by simp [Go.Sk.Move.cells, Pose.cells]) (hc := rfl) (h := ?_); clear hK; intro w' hK; simp only [List.set_cons_zero, List.set_cons_succ] at hK))
                    | ((with_reducible refine wl_at (o := ⟨some 119, .load _ _, _, _, _, _⟩) ?_); go_must (refine wl_loadPK (Pose.cells M.src) hK rfl rfl rfl (aggT (by decide)) (h := ?_)))
                    | ((with_reducible refine wl_at (o := ⟨none, .store 39 (.tmp 120) _, _, _, _, _⟩) ?_)
                       go_must (refine wl_storePK (n := 3) (Pose.cells M.src) (Go.Sk.Move.cells { M with src := M.dst, dst := M.src }) hK rfl rfl rfl rfl (aggS (by decide)) (pose_one _) (hk := by simp [Go.Sk.Move.cells, Pose.cells]) (hc := rfl) (h := ?_); clear hK; intro w' hK; simp only [List.set_cons_zero, List.set_cons_succ] at hK))
                    | ((with_reducible refine wl_at (o := ⟨none, .store 3 (.tmp 128) _, _, _, _, _⟩) ?_); go_must (refine wl_storeK (v := .int .i64 (backD M.dir)) hK rfl rfl rfl rfl (sizT (by decide)) rfl (hk := by simp [Go.Sk.Move.cells, Pose.cells]) (h := ?_); clear hK; intro w' hK; replace hK : Know _ w' none' (rBlk b16 (Go.Sk.Move.cells { M with src := M.dst, dst := M.src, dir := backD M.dir }) 41 :: _) _ := hK))
                    | ((with_reducible refine wl_at (o := ⟨none, .store 3 (.tmp 129) _, _, _, _, _⟩) ?_); go_must (refine wl_storeK (v := .int .i64 5) hK rfl rfl rfl rfl (sizT (by decide)) rfl (hk := by simp [Go.Sk.Move.cells, Pose.cells]) (h := ?_); clear hK; intro w' hK; replace hK : Know _ w' none' (rBlk b16 (Go.Sk.Move.cells { M with src := M.dst, dst := M.src, dir := backD M.dir, at_ := 5 }) 41 :: _) _ := hK))
                    | (go_at_call 19; go_must (refine (hK.quiet (kLx.out _)).mono ?_; clear hK; rintro e w' ⟨rfl, hK⟩))
                    | ((with_reducible refine wl_at (o := ⟨none, .store 3 (.tmp 134) _, _, _, _, _⟩) ?_); go_must (refine wl_storeK (v := .int .i64 (5 + T)) hK rfl rfl rfl rfl (sizT (by decide)) rfl (hk := by simp [Go.Sk.Move.cells, Pose.cells]) (h := ?_); clear hK; intro w' hK; replace hK : Know _ w' none' (rBlk b16 (Go.Sk.Move.cells { M with src := M.dst, dst := M.src, dir := backD M.dir, at_ := 5, fin := 5 + T }) 41 :: _) _ := hK))
                    | (go_at_call 20; go_must (refine (hK.quiet (kGx.out _ hK.lent)).mono ?_; clear hK; rintro e w' ⟨rfl, hK⟩))
                    | ((with_reducible refine wl_at (o := ⟨some 140, _, _, _, _, _⟩) ?_); go_must (refine wl_pure (v := .agg (Tele.cells ⟨1, 0, 0, 2, { M with src := M.dst, dst := M.src, dir := backD M.dir, at_ := 5, fin := 5 + T }, poseO, 0⟩).toArray) rfl (fun W => by kernel_rfl) ?_))
                    | ((with_reducible refine wl_at (o := ⟨none, .store 43 _ _, _, _, _, _⟩) ?_)
                       go_must (refine wl_storeWK (vs := Tele.cells ⟨1, 0, 0, 2, { M with src := M.dst, dst := M.src, dir := backD M.dir, at_ := 5, fin := 5 + T }, poseO, 0⟩) hK rfl rfl rfl rfl (aggS (by decide)) (elTele.one _) (h := ?_); clear hK; intro w' hK; simp only [List.set_cons_zero, List.set_cons_succ] at hK))
                    | go_big_skip
                    | go_big_skip
                    | ((with_reducible refine wl_at (o := ⟨_, .load _ _, _, _, _, _⟩) ?_)
                       first
                         | refine wl_loadK hK rfl rfl rfl (scalT (by decide)) (h := ?_)
                         | refine wl_loadSK hK rfl rfl rfl (aggT (by decide)) (h := ?_)
                         | refine wl_loadA0 rfl rfl rfl (scalT (by decide)) (h := ?_)
                         | refine wl_loadA rfl rfl rfl (scalT (by decide)) (h := ?_)
                         | refine wl_loadSA rfl rfl rfl (aggT (by decide)) (h := ?_))
                    | (with_reducible refine atEnd_mk (by kernel_rfl) ?_))
                  go_roundg (2 - (j + 1))
                  case measure => omega
                  case rel => exact ⟨j + 1, 2, M.dst, backM M (5 + T), by go_num, rfl, by omega, there_step hR.out hlt HWD.out HN.out HD.out, by rw [HB.out]; exact hK.sub (.cons _ (.cons _ (List.Sublist.refl _)))⟩
                · have dk : (M.kind == 1) = false := beq_eq_false_iff_ne.2 hk1
                  have dk' : decide (M.kind = 1) = false := decide_eq_false hk1
                  have HB := Lib.hid (show backM M (5 + T) = { M with src := M.dst, dst := M.src, at_ := 5, fin := 5 + T } by unfold backM; rw [if_neg hk1])
                  clear hk1
                  have kLx := Lib.hid (fun (W : World) => kL.out W { M with src := M.dst, dst := M.src, at_ := 5 })
                  rw [show lastsP c.p { M with src := M.dst, dst := M.src, at_ := 5 } = T from HT.out] at kLx
                  have kGx := Lib.hid (fun (W : World) (h : Has W (rConf c)) => kLg.out W { M with src := M.dst, dst := M.src, at_ := 5, fin := 5 + T } h ⟨HWD.out.x, HWD.out.y⟩ (by rw [← HB.out]; exact HN.out.legal))
                  go_wp2_with (first
                    | (go_at_call 18; go_must (refine (rb_tell hK.own).mono ?_; rintro e w' ⟨adt, rfl, hT⟩; replace hK := hK.push1 hT; clear hT; rw [HTL.out] at hK))
                    | ((with_reducible refine wl_at (o := ⟨some 97, _, _, _, _, _⟩) ?_); go_must (refine wl_ixK (i := 0) (u := (⟨3, 0, 0, j + 1, mvZ, poseO, 0⟩ : Tele)) hK rfl rfl rfl rfl teleTy18.und teleTy18.size (hu := HT0) (h := ?_); intro b97 k97 hat97))
                    | ((with_reducible refine wl_at (o := ⟨some 104, _, _, _, _, _⟩) ?_); go_must (refine wl_ixK (i := 0) (u := (⟨3, 0, 0, j + 1, mvZ, poseO, 0⟩ : Tele)) hK rfl rfl rfl rfl teleTy18.und teleTy18.size (hu := HT0) (h := ?_); intro b104 k104 hat104))
                    | ((with_reducible refine wl_at (o := ⟨some 112, .load _ _, _, _, _, _⟩) ?_); go_must (refine wl_loadPK (Go.Sk.Move.cells M) hK rfl rfl rfl (aggT (by decide)) (h := ?_)))
                    | ((with_reducible refine wl_at (o := ⟨some 16, .alloc _, _, _, _, _⟩) ?_)
                       go_must (refine wl_allocK (z := .agg (moveZ).toArray) (zs := moveZ) hK rfl rfl (by kernel_rfl) rfl ?_; clear hK; intro w16 b16 hK))
                    | ((with_reducible refine wl_at (o := ⟨none, .store 41 (.tmp 16) _, _, _, _, _⟩) ?_)
                       go_must (refine wl_storeWK (vs := Go.Sk.Move.cells M) hK rfl rfl rfl rfl (aggS (by decide)) (move_one _) (h := ?_); clear hK; intro w' hK; simp only [List.set_cons_zero, List.set_cons_succ] at hK))
                    | ((with_reducible refine wl_at (o := ⟨some 115, .load _ _, _, _, _, _⟩) ?_); go_must (refine wl_loadPK (Pose.cells M.dst) hK rfl rfl rfl (aggT (by decide)) (h := ?_)))
                    | ((with_reducible refine wl_at (o := ⟨none, .store 39 (.tmp 116) _, _, _, _, _⟩) ?_)
                       go_must (refine wl_storePK (n := 3) (Pose.cells M.dst) (Go.Sk.Move.cells { M with src := M.dst }) hK rfl rfl rfl rfl (aggS (by decide)) (pose_one _) (hk := by simp [Go.Sk.Move.cells, Pose.cells]) (hc := rfl) (h := ?_); clear hK; intro w' hK; simp only [List.set_cons_zero, List.set_cons_succ] at hK))
                    | ((with_reducible refine wl_at (o := ⟨some 119, .load _ _, _, _, _, _⟩) ?_); go_must (refine wl_loadPK (Pose.cells M.src) hK rfl rfl rfl (aggT (by decide)) (h := ?_)))
                    | ((with_reducible refine wl_at (o := ⟨none, .store 39 (.tmp 120) _, _, _, _, _⟩) ?_)
                       go_must (refine wl_storePK (n := 3) (Pose.cells M.src) (Go.Sk.Move.cells { M with src := M.dst, dst := M.src }) hK rfl rfl rfl rfl (aggS (by decide)) (pose_one _) (hk := by simp [Go.Sk.Move.cells, Pose.cells]) (hc := rfl) (h := ?_); clear hK; intro w' hK; simp only [List.set_cons_zero, List.set_cons_succ] at hK))
                    | ((with_reducible refine wl_at (o := ⟨none, .store 3 (.tmp 129) _, _, _, _, _⟩) ?_); go_must (refine wl_storeK (v := .int .i64 5) hK rfl rfl rfl rfl (sizT (by decide)) rfl (hk := by simp [Go.Sk.Move.cells, Pose.cells]) (h := ?_); clear hK; intro w' hK; replace hK : Know _ w' none' (rBlk b16 (Go.Sk.Move.cells { M with src := M.dst, dst := M.src, at_ := 5 }) 41 :: _) _ := hK))
                    | (go_at_call 19; go_must (refine (hK.quiet (kLx.out _)).mono ?_; clear hK; rintro e w' ⟨rfl, hK⟩))
                    | ((with_reducible refine wl_at (o := ⟨none, .store 3 (.tmp 134) _, _, _, _, _⟩) ?_); go_must (refine wl_storeK (v := .int .i64 (5 + T)) hK rfl rfl rfl rfl (sizT (by decide)) rfl (hk := by simp [Go.Sk.Move.cells, Pose.cells]) (h := ?_); clear hK; intro w' hK; replace hK : Know _ w' none' (rBlk b16 (Go.Sk.Move.cells { M with src := M.dst, dst := M.src, at_ := 5, fin := 5 + T }) 41 :: _) _ := hK))
                    | (go_at_call 20; go_must (refine (hK.quiet (kGx.out _ hK.lent)).mono ?_; clear hK; rintro e w' ⟨rfl, hK⟩))
                    | ((with_reducible refine wl_at (o := ⟨some 140, _, _, _, _, _⟩) ?_); go_must (refine wl_pure (v := .agg (Tele.cells ⟨1, 0, 0, 2, { M with src := M.dst, dst := M.src, at_ := 5, fin := 5 + T }, poseO, 0⟩).toArray) rfl (fun W => by kernel_rfl) ?_))
                    | ((with_reducible refine wl_at (o := ⟨none, .store 43 _ _, _, _, _, _⟩) ?_)
                       go_must (refine wl_storeWK (vs := Tele.cells ⟨1, 0, 0, 2, { M with src := M.dst, dst := M.src, at_ := 5, fin := 5 + T }, poseO, 0⟩) hK rfl rfl rfl rfl (aggS (by decide)) (elTele.one _) (h := ?_); clear hK; intro w' hK; simp only [List.set_cons_zero, List.set_cons_succ] at hK))
                    | go_big_skip
                    | go_big_skip
                    | ((with_reducible refine wl_at (o := ⟨_, .load _ _, _, _, _, _⟩) ?_)
                       first
                         | refine wl_loadK hK rfl rfl rfl (scalT (by decide)) (h := ?_)
                         | refine wl_loadSK hK rfl rfl rfl (aggT (by decide)) (h := ?_)
                         | refine wl_loadA0 rfl rfl rfl (scalT (by decide)) (h := ?_)
                         | refine wl_loadA rfl rfl rfl (scalT (by decide)) (h := ?_)
                         | refine wl_loadSA rfl rfl rfl (aggT (by decide)) (h := ?_))
                    | (with_reducible refine atEnd_mk (by kernel_rfl) ?_))
                  go_roundg (2 - (j + 1))
                  case measure => omega
                  case rel => exact ⟨j + 1, 2, M.dst, backM M (5 + T), by go_num, rfl, by omega, there_step hR.out hlt HWD.out HN.out HD.out, by rw [HB.out]; exact hK.sub (.cons _ (.cons _ (List.Sublist.refl _)))⟩
          · have hj2 : j = 2 := by omega
            subst hj2
            obtain ⟨_, _, _, _, _, hPu⟩ := hR.out
            obtain rfl := hPu rfl
            have kPo := Lib.hid (fun (W : World) (h : Has W (rROB c.p 0 p ⟨P, 0, 0, ((2 : Nat) : Int), none, false, 0⟩)) => rb_pose h)
            replace hK := hK.part (r := rConf c) (r' := rRd elPose c.robots.val c.robots.l) (by simp) (rAll_mem (by simp))
            go_wp2_with (first
              | (go_at_call 21; go_must (refine (hK.quiet (kPo.out _ hK.own)).mono ?_; clear hK; rintro e w' ⟨rfl, hK⟩))
              | ((with_reducible refine wp_region_stableK (id := 33) hK [3, 5] [rBlk b2 c.cells 26, rRd elPose c.robots.val c.robots.l] (by kernel_rfl) (by kernel_rfl) (by simp) (by kernel_rfl) ?_); clear hK; intro w' hK)
              | (with_reducible refine wpC_of ?_)
              | (with_reducible refine atEndC (hK.cls (by simp)) ?_)
              | ((with_reducible refine wpC_end' ?_); refine wpC_nil ⟨by kernel_rfl, stays_loadK rfl rfl rfl rfl (scalT (by decide)) rfl (rest := stays_loadSE (Pose.cells P) rfl rfl rfl rfl (aggT (by decide)) hel145 (by simp) rfl rfl rfl stays_nil), ?_⟩)
              | ((with_reducible refine wl_at (o := ⟨some 145, _, _, _, _, _⟩) ?_); go_must (refine wl_ixE (i := 0) (u := P) hK rfl rfl rfl rfl poseTy.und poseTy.size (hu := HU) (h := ?_); intro b145 k145 hat145 hel145))
              | ((with_reducible refine wl_at (o := ⟨some 147, _, _, _, _, _⟩) ?_); go_must (refine wl_eqlPs P poseEq rfl rfl rfl rfl ?_))
              | (go_at_call 9; go_must (refine (hK.quiet (awake_calls hK.lent)).mono ?_; clear hK; rintro e w' ⟨rfl, hK⟩))
              | go_big_skip
              | go_big_skip
              | ((with_reducible refine wl_at (o := ⟨_, .load _ _, _, _, _, _⟩) ?_)
                 first
                   | refine wl_loadK hK rfl rfl rfl (scalT (by decide)) (h := ?_)
                   | refine wl_loadSK hK rfl rfl rfl (aggT (by decide)) (h := ?_)
                   | refine wl_loadA0 rfl rfl rfl (scalT (by decide)) (h := ?_)
                   | refine wl_loadA rfl rfl rfl (scalT (by decide)) (h := ?_)
                   | refine wl_loadSA rfl rfl rfl (aggT (by decide)) (h := ?_))
              | (with_reducible refine atEnd_mk (by kernel_rfl) ?_))
            go_ret
            exact ⟨rfl, hK.mod⟩
end Go.Proofs.YtcjpnlplibaffaaGreatDoor
