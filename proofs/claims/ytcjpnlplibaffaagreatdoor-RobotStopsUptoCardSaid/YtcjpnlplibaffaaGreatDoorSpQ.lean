/- RobotStops. -/
import Derived.Test.YtcjpnlplibaffaaGreatDoorDlQ
import Derived.Test.YtcjpnlplibaffaaGreatDoorSkStopQ
set_option linter.all false
namespace Go.Proofs.YtcjpnlplibaffaaGreatDoor
open Go Go.Sk Go.RowKit
set_option maxRecDepth 100000

/-- The stop, on the way. -/
theorem stops_way {c : ConfP} {k : KinP} {u : Pose} {m m' : Go.Sk.Move} {T n L : Int} {ct : Bool} (hn : 0 ≤ n) (h : (⟨m, n, T - n, false⟩ : Going).cuts k = ⟨m', n, L, ct⟩) : (wayR u m 0 0 T 0 n).hear c k 0 ⟨2, 0, 9, 0, mvZ, poseO, 0⟩ = (haltR u 0 9 m' n L ct 0 0, [], 0) := by
  unfold wayR haltR
  rw [if_neg (show ¬ n < 0 by omega), if_neg (show ¬ (0 : Int) < 0 by omega)]
  simp only [Int.sub_zero]
  unfold RM.hear RM.stops
  simp [h]

open Classical in
set_option maxHeartbeats 8000000 in
theorem stops_calls {c : ConfV} {pick ticks delay : Int} {w : World} (hc : Has w (rConf c)) (hst : Has w stepsR) (hu : Upto c) (hwf : ∀ p ∈ c.robots.l, PoseWf p) (_hp : -9223372036854775808 ≤ pick ∧ pick ≤ 9223372036854775807) (_ht : -9223372036854775808 ≤ ticks ∧ ticks ≤ 9223372036854775807) (_hd : -9223372036854775808 ≤ delay ∧ delay ≤ 9223372036854775807) :
    Calls Tryz.prog 5 #[.agg c.cells.toArray, .int .i64 pick, .int .i64 ticks, .int .i64 delay] w (Ret (.bool true) w) := by
  have hK : Know w w none' [] [rConf c, stepsR] := Know.start (L := [rConf c, stepsR]) w (by
    intro r hr
    simp only [List.mem_cons, List.not_mem_nil, or_false] at hr
    rcases hr with rfl | rfl
    · exact hc
    · exact hst)
  clear hc hst
  obtain ⟨sm, hsm⟩ : ∃ sm, decide (smallB c.p) = sm := ⟨_, rfl⟩
  have HS := Lib.hid hsm
  cases sm with
  | false =>
    clear hsm
    go_enter Tryz.func5, Tryz.ntmps5
    go_wp2_with (first
      | ((with_reducible refine wl_at (o := ⟨some 4, .box _ _, _, _, _, _⟩) ?_)
         go_must (refine wl_boxK hK rfl rfl rfl rfl ?_; clear hK; intro w4 b4 hK))
      | (go_at_call 8; go_must (refine (hK.quiet (kn_small HS.out hu hK.lent)).mono ?_; clear hK; rintro e w' ⟨rfl, hK⟩))
      | (go_at_call 9; go_must (refine (hK.quiet (awake_calls hK.lent)).mono ?_; clear hK; rintro e w' ⟨rfl, hK⟩))
      | go_big_skip
      | go_big_skip
      | ((with_reducible refine wl_at (o := ⟨_, .load _ _, _, _, _, _⟩) ?_)
         first
           | refine wl_loadK hK rfl rfl rfl (scalT (by decide)) (h := ?_)
           | refine wl_loadSK hK rfl rfl rfl (aggT (by decide)) (h := ?_)
           | refine wl_loadA0 rfl rfl rfl (scalT (by decide)) (h := ?_)
           | refine wl_loadA rfl rfl rfl (scalT (by decide)) (h := ?_)
           | refine wl_loadSA rfl rfl rfl (aggT (by decide)) (h := ?_))
      | (with_reducible refine atEnd_mk (by kernel_rfl) ?_))
    go_ret
    exact ⟨rfl, hK.mod⟩
  | true =>
    have hm : MayP c.p := (of_decide_eq_true hsm).2.2.2.2.2.2.2
    clear hsm
    by_cases hrl : c.robots.l.length = 0
    · have d0 : ((c.robots.l.length : Int) == 0) = true := by rw [hrl]; rfl
      have d0' : decide ((c.robots.l.length : Int) = 0) = true := by rw [hrl]; rfl
      have HRL := Lib.hid hrl
      clear hrl
      go_enter Tryz.func5, Tryz.ntmps5
      go_wp2_with (first
        | ((with_reducible refine wl_at (o := ⟨some 4, .box _ _, _, _, _, _⟩) ?_)
           go_must (refine wl_boxK hK rfl rfl rfl rfl ?_; clear hK; intro w4 b4 hK))
        | (go_at_call 8; go_must (refine (hK.quiet (kn_small HS.out hu hK.lent)).mono ?_; clear hK; rintro e w' ⟨rfl, hK⟩))
        | (go_at_call 9; go_must (refine (hK.quiet (awake_calls hK.lent)).mono ?_; clear hK; rintro e w' ⟨rfl, hK⟩))
        | go_big_skip
        | go_big_skip
        | ((with_reducible refine wl_at (o := ⟨_, .load _ _, _, _, _, _⟩) ?_)
           first
             | refine wl_loadK hK rfl rfl rfl (scalT (by decide)) (h := ?_)
             | refine wl_loadSK hK rfl rfl rfl (aggT (by decide)) (h := ?_)
             | refine wl_loadA0 rfl rfl rfl (scalT (by decide)) (h := ?_)
             | refine wl_loadA rfl rfl rfl (scalT (by decide)) (h := ?_)
             | refine wl_loadSA rfl rfl rfl (aggT (by decide)) (h := ?_))
        | (with_reducible refine atEnd_mk (by kernel_rfl) ?_))
      go_ret
      exact ⟨rfl, hK.mod⟩
    · obtain ⟨u, hu0⟩ : ∃ u, c.robots.l[0]? = some u := ⟨_, List.getElem?_eq_getElem (by omega)⟩
      have hpw := hwf u (List.mem_of_getElem? hu0)
      have HU := Lib.hid hu0
      have HM := Lib.hid hm
      have HW := Lib.hid hwf
      have d0 : ((c.robots.l.length : Int) == 0) = false := beq_eq_false_iff_ne.2 (by omega)
      have d0' : decide ((c.robots.l.length : Int) = 0) = false := decide_eq_false (by omega)
      have HOK := Lib.hid (RMOk.start (c := c.p) (p := u) ⟨hpw.x, hpw.y⟩)
      have hkin := Lib.hid (kinOf_ok hm)
      have kN := Lib.hid (fun (W : World) (h : Has W (rConf c)) => ref_new h hu0)
      have kG := Lib.hid (fun (W : World) (q : Nat) (h1 : Has W (rConf c)) (h2 : Has W (rBlk q ((R18.start 0 u).cells c) 70)) => show Calls Tryz.prog 13 #[.agg c.cells.toArray, .pointer (some ⟨q, 0, none⟩), .int .i64 pick, .int .i64 3] W fun e w' => ∃ m, e = .returned (.agg (Tele.cells ⟨1, 0, 0, 1, m, poseO, 0⟩).toArray) ∧ Hid (GosOk c.p u m) ∧ Mod none' W w' from gos_calls (r := R18.start 0 u) (n := pick) (late := 3) hm h1 h2 hu.sized hpw (home_fits hm hu0) (by simp [R18.start]))
      have HWU := Lib.hid (show WfP u from ⟨hpw.x, hpw.y⟩)
      clear hm hwf hu0 hrl hpw
      go_enter Tryz.func5, Tryz.ntmps5
      go_wp2_with (first
        | ((with_reducible refine wl_at (o := ⟨some 4, .box _ _, _, _, _, _⟩) ?_)
           go_must (refine wl_boxK hK rfl rfl rfl rfl ?_; clear hK; intro w4 b4 hK))
        | (go_at_call 8; go_must (refine (hK.quiet (kn_small HS.out hu hK.lent)).mono ?_; clear hK; rintro e w' ⟨rfl, hK⟩))
        | (go_at_call 11; go_must (refine (dup_calls (c := c) hK.lent hu).mono ?_; rintro e w' ⟨d, rfl, hd, hT⟩; replace hK := hK.push1 hT; have HD := Lib.hid hd; clear hT hd))
        | (go_at_call 10; go_must (refine (rb_newD HM.out HD.out hu HW.out HU.out hK.own hK.lent).mono ?_; rintro e w' ⟨p, rfl, hT⟩; replace hK := hK.push1 hT; clear hT))
        | go_big_skip
        | go_big_skip
        | ((with_reducible refine wl_at (o := ⟨_, .load _ _, _, _, _, _⟩) ?_)
           first
             | refine wl_loadK hK rfl rfl rfl (scalT (by decide)) (h := ?_)
             | refine wl_loadSK hK rfl rfl rfl (aggT (by decide)) (h := ?_)
             | refine wl_loadA0 rfl rfl rfl (scalT (by decide)) (h := ?_)
             | refine wl_loadA rfl rfl rfl (scalT (by decide)) (h := ?_)
             | refine wl_loadSA rfl rfl rfl (aggT (by decide)) (h := ?_))
        | (with_reducible refine atEnd_mk (by kernel_rfl) ?_))
      refine wp_region_floatK (id := 6) hK 5 [0, 1] [rBlk b4 c.cells 26] [0, 1, 2, 3, 4, 5, 6] [2, 4, 5, 6] (fun a a' w' => ∃ (b11 : Nat) (q : Value) (m : Go.Sk.Move), a' = (((((((a.put (some 50) (.agg c.cells.toArray)).put (some 51) (.agg c.cells.toArray)).put (some 52) q).put (some 53) (.int .i64 pick)).put (some 54) (.agg (Tele.cells ⟨1, 0, 0, 1, m, poseO, 0⟩).toArray)).put (some 11) (.pointer (some ⟨b11, 0, none⟩)))).put none undef ∧ Hid (GosOk c.p u m) ∧ Know w w' none' [rBlk b11 (Tele.cells ⟨1, 0, 0, 1, m, poseO, 0⟩) 43, rROB c.p 0 p (RM.start u), rBlk b4 c.cells 26] [rConf c, stepsR]) (by kernel_rfl) (by kernel_rfl) (by kernel_rfl) (by kernel_rfl) (by simp) (fun w' hK2 => ?_) (fun a' w' hI => ?_)
      · clear hK
        have hK := hK2
        clear hK2
        go_wp2_with (first
          | (with_reducible refine wpGB_loud 2 [5, 2, 3, 4, 6] (by decide) (by decide) (by decide) ?_ ?_)
          | (with_reducible refine wpGB_loud 4 [5, 4, 6] (by decide) (by decide) (by decide) ?_ ?_)
          | (with_reducible refine wpGB_here (i := 5) (by decide) ?_)
          | (with_reducible refine wpGB_soft (by decide) (by decide) ?_)
          | ((with_reducible refine stepU_at 0 ?_); go_must (refine stepU_loadSK (op_of rfl) (by decide) rfl rfl rfl (aggT (by decide)) (h := ?_); intro w' hM; replace hK := hK.same hM; clear hM))
          | ((with_reducible refine stepU_at 1 ?_); go_must (refine stepU_loadSK (op_of rfl) (by decide) rfl rfl rfl (aggT (by decide)) (h := ?_); intro w' hM; replace hK := hK.same hM; clear hM))
          | (with_reducible refine wpGI_of ?_)
          | ((with_reducible refine stepU_at _ ?_); go_must (refine stepU_of (op_of rfl) (by decide) ?_; intro w' hM; replace hK := hK.same hM; clear hM))
          | (with_reducible refine atEndC (hK.clsG (by simp)) ?_)
          | ((with_reducible refine wpGI_nil ?_); intro w' hM; replace hK := hK.same hM; clear hM; refine ⟨by kernel_rfl, ?_⟩; first | exact ⟨b11, .pointer (some ⟨q, 0, none⟩), m, by kernel_rfl, hg, hK.sub (.cons_cons _ (.cons _ (.cons_cons _ (.cons _ (.cons_cons _ .slnil)))))⟩ | exact ⟨b11, .pointer (some ⟨q, 0, none⟩), m, by kernel_rfl, hg, hK.sub (.cons _ (.cons_cons _ (.cons_cons _ (.cons _ (.cons_cons _ .slnil)))))⟩)
          | (go_at_call 14; go_must (refine (kN.out _ hK.lent).mono ?_; rintro e w' ⟨q, rfl, hT⟩; replace hK := hK.push1 hT; clear hT))
          | (go_at_call 13; go_must (refine (kG.out _ q hK.lent hK.own).mono ?_; rintro e w' ⟨m, rfl, hg, hM⟩; replace hK := hK.same hM; clear hM))
          | ((with_reducible refine wl_at (o := ⟨some 11, .alloc _, _, _, _, _⟩) ?_)
             go_must (refine wl_allocK (z := .agg (Tele.cells ⟨0, 0, 0, 0, mvZ, poseO, 0⟩).toArray) (zs := Tele.cells ⟨0, 0, 0, 0, mvZ, poseO, 0⟩) hK rfl rfl (by kernel_rfl) rfl ?_; clear hK; intro w11 b11 hK))
          | ((with_reducible refine wl_at (o := ⟨none, .store 43 _ _, _, _, _, _⟩) ?_)
             go_must (refine wl_storeWK (vs := Tele.cells ⟨1, 0, 0, 1, m, poseO, 0⟩) hK rfl rfl rfl rfl (aggS (by decide)) (elTele.one _) (h := ?_); clear hK; intro w' hK; simp only [List.set_cons_zero, List.set_cons_succ] at hK))
          | go_big_skip
          | go_big_skip
          | ((with_reducible refine wl_at (o := ⟨_, .load _ _, _, _, _, _⟩) ?_)
             first
               | refine wl_loadK hK rfl rfl rfl (scalT (by decide)) (h := ?_)
               | refine wl_loadSK hK rfl rfl rfl (aggT (by decide)) (h := ?_)
               | refine wl_loadA0 rfl rfl rfl (scalT (by decide)) (h := ?_)
               | refine wl_loadA rfl rfl rfl (scalT (by decide)) (h := ?_)
               | refine wl_loadSA rfl rfl rfl (aggT (by decide)) (h := ?_))
          | (with_reducible refine atEnd_mk (by kernel_rfl) ?_))
      · clear hK
        obtain ⟨b11, q, m, rfl, hg, hK⟩ := hI
        have kLg := Lib.hid (fun (W : World) (m : Go.Sk.Move) (h : Has W (rConf c)) (hp : PoseWf m.src) (hl : legalP c.p m = true) => show Calls Tryz.prog 20 #[.agg c.cells.toArray, .agg m.cells.toArray] W (Ret (.bool true) W) from by
          have := ref_legal (c := c) (m := m) (w := W) h hu.sized hp
          rwa [hl] at this)
        clear kN kG
        obtain rfl := hg.out.src
        have hun := nums_iff.1 HM.out.nums
        obtain ⟨hun0, hun1⟩ : 1 ≤ c.unit ∧ c.unit ≤ 1000 := hun.unit
        obtain ⟨T, hT⟩ : ∃ T, lastsP c.p m = T := ⟨_, rfl⟩
        have hgw := goes_way (k := kinOf c.p) (r := RM.start m.src) HM.out hg.out rfl (by omega)
        have htb := lastsP_bd HM.out hg.out.legal
        rw [hT] at hgw htb
        have hwd : WfP m.dst := legal_dst hg.out.legal HWU.out
        have hn16 := legalP_n hg.out.legal
        have kH := Lib.hid (fun (W : World) (S : Nat → Prop) (h : Know W W S [rROB c.p 0 p (RM.start m.src)] [stepsR]) => rb_hear HOK.out (by omega) (by show m.n ≤ _; omega) hgw h)
        have HF := Lib.hid (show m.fin = m.at_ + T by rw [hg.out.fin, hT])
        have ha0 := hg.out.at_.1
        have ha1 := hg.out.at_.2
        have hf1 : m.at_ ≤ m.fin := by rw [HF.out]; omega
        have hf2 : m.fin ≤ 17000 := by rw [HF.out]; omega
        have kOK := Lib.hid (fun (k : Int) (hk : 0 ≤ k ∧ k < T) => way_ok (D := 0) (e := 0) (num := 0) HWU.out hwd hg.out (by omega) (by omega) htb ⟨Int.le_refl _, by omega⟩ ⟨hk.1, by omega⟩)
        have kTick := Lib.hid (fun (W : World) (S : Nat → Prop) (k : Int) (hk : 0 ≤ k ∧ k + 1 < T) (h : (rROB c.p 0 p (wayR m.src m 0 0 T 0 k)).p W S) => rb_tick (kOK.out k (by omega)) (by omega) (way_tick hk.1 (by omega)) h)
        obtain ⟨t0, t1⟩ := htb
        -- how long it goes until it is stopped
        obtain ⟨N, hN⟩ : ∃ N, ticks % T = N := ⟨_, rfl⟩
        have hN0 : 0 ≤ N := by rw [← hN]; exact Int.emod_nonneg _ (by omega)
        have hN1 : N < T := by rw [← hN]; exact Int.emod_lt_of_pos _ (by omega)
        have kP1 := Lib.hid (fun (W : World) => show Calls Tryz.prog 16 #[.int .i64 ticks, .int .i64 (m.fin - m.at_)] W (Ret (.int .i64 N) W) from
          (Place_calls ticks (m.fin - m.at_) W (by rw [HF.out]; omega) (by omega)).mono fun e w' h => ⟨by rw [h.1, show m.fin - m.at_ = T by rw [HF.out]; omega, hN], by rw [h.2]; exact Mod.refl _ _⟩)
        obtain ⟨D, hD⟩ : ∃ D, delay % 30 = D := ⟨_, rfl⟩
        have hD0 : 0 ≤ D := by rw [← hD]; exact Int.emod_nonneg _ (by omega)
        have hD1 : D < 30 := by rw [← hD]; exact Int.emod_lt_of_pos _ (by omega)
        have kP2 := Lib.hid (fun (W : World) => show Calls Tryz.prog 16 #[.int .i64 delay, .int .i64 30] W (Ret (.int .i64 D) W) from
          (Place_calls delay 30 W (by omega) (by omega)).mono fun e w' h => ⟨by rw [h.1, hD], by rw [h.2]; exact Mod.refl _ _⟩)
        obtain ⟨n', dd, L, ct, hcut, hL0, hL1, hC⟩ := cuts_is (k := kinOf c.p) (t := N) (left := T - N) hkin.out hun hg.out.legal HWU.out hn16.1 hN0 (by omega)
        have hL2 : L ≤ T + c.unit := by have h : L ≤ N + (T - N) + c.unit := hL1; omega
        have hC0 := hC.n0
        have hC1 := hC.n1
        have kS := Lib.hid (fun (W : World) (S : Nat → Prop) (h : Know W W S [rROB c.p 0 p (wayR m.src m 0 0 T 0 N)] [stepsR]) => rb_hear (t := ⟨2, 0, 9, 0, mvZ, poseO, 0⟩) (kOK.out N ⟨hN0, hN1⟩) (by omega) (by show (0 : Int) ≤ _; omega) (stops_way hN0 hcut) h)
        have kHO := Lib.hid (fun (d k : Int) (hd : 0 ≤ d ∧ d < 30) (hk : 0 ≤ k ∧ k < L + d) => halt_ok (c := c.p) (m := m) (ld := 0) (e := 9) (n := n') (dd := dd) (t := N) (L := L) (d := d) (q := k) (ct := ct) HWU.out hC (by omega) ⟨hN0, by omega⟩ ⟨hL0, by omega⟩ ⟨hd.1, by omega⟩ hk)
        have kDel := Lib.hid (fun (W : World) (S : Nat → Prop) (h : (rROB c.p 0 p (haltR m.src 0 9 { m with n := n', dst := dd } N L ct 0 0)).p W S) =>
          (show Calls Tryz.prog 12 #[.pointer (some ⟨p, 0, none⟩), .int .i64 D] W fun e w' => e = .returned (.tuple #[]) ∧ Turn (rROB c.p 0 p (haltR m.src 0 9 { m with n := n', dst := dd } N L ct D 0)) W w' S from by
            have := rb_delay (d := D) (kHO.out 0 0 (by omega) (by omega)) h
            rwa [halt_hold hD0 (by omega)] at this))
        have kTickH := Lib.hid (fun (W : World) (S : Nat → Prop) (k : Int) (hk : 0 ≤ k ∧ k + 1 < L + D) (h : (rROB c.p 0 p (haltR m.src 0 9 { m with n := n', dst := dd } N L ct D k)).p W S) => rb_tick (kHO.out D k ⟨hD0, hD1⟩ (by omega)) (by omega) (halt_tick hk.1 hk.2) h)
        have kDone := Lib.hid (fun (W : World) (S : Nat → Prop) (k : Int) (hk : 0 ≤ k ∧ k + 1 = L + D) (h : (rROB c.p 0 p (haltR m.src 0 9 { m with n := n', dst := dd } N L ct D k)).p W S) => rb_tick (kHO.out D k ⟨hD0, hD1⟩ (by omega)) (by omega) (show (haltR m.src 0 9 { m with n := n', dst := dd } N L ct D k).tick = (⟨dd, 0, 9, 0, none, false, 0⟩, { m with n := n', dst := dd }, 2) from halt_done hD0 hL0 hk.2) h)
        have HC := Lib.hid hC
        have HL := Lib.hid hL2
        have HT := Lib.hid hT
        clear hwd hgw hT hn16 HOK hN hD hcut hC hL1 hun
        go_wp2_with (first
          | (go_at_call 15; go_must (refine (Know.hears hK (by repeat (first | exact Ix.head | apply Ix.tail)) (by simp) (fun S hS => kH.out _ S hS)).mono ?_; clear hK; rintro e w' ⟨adt, cpt, rfl, hK⟩; simp only [List.set_cons_zero, List.set_cons_succ] at hK; replace hK := hK.sub (.cons _ (List.Sublist.refl _))))
          | (go_at_call 16; go_must (refine (hK.quiet (kP1.out _)).mono ?_; clear hK; rintro e w' ⟨rfl, hK⟩))
          | go_big_skip
          | go_big_skip
          | ((with_reducible refine wl_at (o := ⟨_, .load _ _, _, _, _, _⟩) ?_)
             first
               | refine wl_loadK hK rfl rfl rfl (scalT (by decide)) (h := ?_)
               | refine wl_loadSK hK rfl rfl rfl (aggT (by decide)) (h := ?_)
               | refine wl_loadA0 rfl rfl rfl (scalT (by decide)) (h := ?_)
               | refine wl_loadA rfl rfl rfl (scalT (by decide)) (h := ?_)
               | refine wl_loadSA rfl rfl rfl (aggT (by decide)) (h := ?_))
          | (with_reducible refine atEnd_mk (by kernel_rfl) ?_))
        go_loopg [15, 16, 17] (N.toNat) (fun k i _ _ wr => ∃ (q : Nat), i = .int .i64 q ∧ k = N.toNat - q ∧ (q : Int) ≤ N ∧ Know w wr none' [rBlk b11 (Tele.cells ⟨1, 0, 0, 1, m, poseO, 0⟩) 43, rROB c.p 0 p (wayR m.src m 0 0 T 0 q), rBlk b4 c.cells 26] [rConf c, stepsR])
        case atStart => exact ⟨0, rfl, by omega, by omega, hK⟩
        case round =>
          clear hK
          obtain ⟨q, rfl, rfl, hq, hK⟩ := hrel
          by_cases hql : (q : Int) < N
          · have kTq := Lib.hid (fun (W : World) (S : Nat → Prop) (h : (rROB c.p 0 p (wayR m.src m 0 0 T 0 q)).p W S) => kTick.out W S q (by omega) h)
            have dl : decide ((q : Int) < N) = true := decide_eq_true hql
            go_wp2_with (first
              | (go_at_call 17; go_must (refine (hK.callsI (fun S hS => kTq.out _ _ hS)).mono ?_; clear hK; rintro e w' ⟨rfl, hK⟩; simp only [List.set_cons_zero, List.set_cons_succ] at hK))
              | ((with_reducible refine wl_at (o := ⟨some 16, .alloc _, _, _, _, _⟩) ?_)
                 go_must (refine wl_allocK (z := .agg (moveZ).toArray) (zs := moveZ) hK rfl rfl (by kernel_rfl) rfl ?_; clear hK; intro w16 b16 hK))
              | ((with_reducible refine wl_at (o := ⟨none, .store 41 _ _, _, _, _, _⟩) ?_)
                 go_must (refine wl_storeWK (vs := Go.Sk.Move.cells mvZ) hK rfl rfl rfl rfl (aggS (by decide)) (move_one _) (h := ?_); clear hK; intro w' hK; simp only [List.set_cons_zero, List.set_cons_succ] at hK))
              | go_big_skip
              | go_big_skip
              | ((with_reducible refine wl_at (o := ⟨_, .load _ _, _, _, _, _⟩) ?_)
                 first
                   | refine wl_loadK hK rfl rfl rfl (scalT (by decide)) (h := ?_)
                   | refine wl_loadSK hK rfl rfl rfl (aggT (by decide)) (h := ?_)
                   | refine wl_loadA0 rfl rfl rfl (scalT (by decide)) (h := ?_)
                   | refine wl_loadA rfl rfl rfl (scalT (by decide)) (h := ?_)
                   | refine wl_loadSA rfl rfl rfl (aggT (by decide)) (h := ?_))
              | (with_reducible refine atEnd_mk (by kernel_rfl) ?_))
            go_roundg (N.toNat - (q + 1))
            case measure => omega
            case rel => exact ⟨q + 1, by go_num, rfl, by omega, hK.sub (.cons _ (List.Sublist.refl _))⟩
          · have hqe : (q : Int) = N := by omega
            have kSq := Lib.hid (fun (W : World) (S : Nat → Prop) (h : Know W W S [rROB c.p 0 p (wayR m.src m 0 0 T 0 q)] [stepsR]) => kS.out W S (by rw [← hqe]; exact h))
            have dl : decide ((q : Int) < N) = false := decide_eq_false hql
            have HQN := Lib.hid hqe
            clear hqe
            go_wp2_with (first
              | ((with_reducible refine wl_at (o := ⟨some 86, _, _, _, _, _⟩) ?_); go_must (refine wl_pure (v := .agg (Tele.cells ⟨2, 0, 9, 0, mvZ, poseO, 0⟩).toArray) rfl (fun W => by kernel_rfl) ?_))
              | (go_at_call 15; go_must (refine (Know.hears hK (by repeat (first | exact Ix.head | apply Ix.tail)) (by simp) (fun S hS => kSq.out _ S hS)).mono ?_; clear hK; rintro e w' ⟨adt, cpt, rfl, hK⟩; simp only [List.set_cons_zero, List.set_cons_succ] at hK; replace hK := hK.sub (.cons _ (List.Sublist.refl _))))
              | (go_at_call 16; go_must (refine (hK.quiet (kP2.out _)).mono ?_; clear hK; rintro e w' ⟨rfl, hK⟩))
              | (go_at_call 12; go_must (refine (hK.callsI (fun S hS => kDel.out _ _ hS)).mono ?_; clear hK; rintro e w' ⟨rfl, hK⟩; simp only [List.set_cons_zero, List.set_cons_succ] at hK))
              | go_big_skip
              | go_big_skip
              | ((with_reducible refine wl_at (o := ⟨_, .load _ _, _, _, _, _⟩) ?_)
                 first
                   | refine wl_loadK hK rfl rfl rfl (scalT (by decide)) (h := ?_)
                   | refine wl_loadSK hK rfl rfl rfl (aggT (by decide)) (h := ?_)
                   | refine wl_loadA0 rfl rfl rfl (scalT (by decide)) (h := ?_)
                   | refine wl_loadA rfl rfl rfl (scalT (by decide)) (h := ?_)
                   | refine wl_loadSA rfl rfl rfl (aggT (by decide)) (h := ?_))
              | (with_reducible refine atEnd_mk (by kernel_rfl) ?_))
            clear HQN dl kSq kS kDel kP1 kP2 kH hq hql
            rw [show m.fin - m.at_ = T by rw [HF.out]; omega]
            go_loopg [21, 22, 23] ((L + D).toNat) (fun k i _ _ wr => ∃ (q : Nat), i = .int .i64 q ∧ k = (L + D).toNat - q ∧ (q : Int) < L + D ∧ Know w wr none' [rBlk b11 (Tele.cells ⟨1, 0, 0, 1, m, poseO, 0⟩) 43, rROB c.p 0 p (haltR m.src 0 9 { m with n := n', dst := dd } N L ct D q), rBlk b4 c.cells 26] [rConf c, stepsR])
            case atStart => exact ⟨0, rfl, by omega, by omega, hK⟩
            case round =>
              clear hK
              obtain ⟨q, rfl, rfl, hq, hK⟩ := hrel
              have dl : decide ((q : Int) < T + D + 1 + c.unit * 6) = true := decide_eq_true (by have := HL.out; omega)
              by_cases hql : (q : Int) + 1 < L + D
              · have kTq := Lib.hid (fun (W : World) (S : Nat → Prop) (h : (rROB c.p 0 p (haltR m.src 0 9 { m with n := n', dst := dd } N L ct D q)).p W S) => kTickH.out W S q (by omega) h)
                go_wp2_with (first
                  | (go_at_call 17; go_must (refine (hK.callsI (fun S hS => kTq.out _ _ hS)).mono ?_; clear hK; rintro e w' ⟨rfl, hK⟩; simp only [List.set_cons_zero, List.set_cons_succ] at hK))
                  | ((with_reducible refine wl_at (o := ⟨some 22, .alloc _, _, _, _, _⟩) ?_)
                     go_must (refine wl_allocK (z := .agg (moveZ).toArray) (zs := moveZ) hK rfl rfl (by kernel_rfl) rfl ?_; clear hK; intro w22 b22 hK))
                  | ((with_reducible refine wl_at (o := ⟨none, .store 41 _ _, _, _, _, _⟩) ?_)
                     go_must (refine wl_storeWK (vs := Go.Sk.Move.cells mvZ) hK rfl rfl rfl rfl (aggS (by decide)) (move_one _) (h := ?_); clear hK; intro w' hK; simp only [List.set_cons_zero, List.set_cons_succ] at hK))
                  | go_big_skip
                  | go_big_skip
                  | ((with_reducible refine wl_at (o := ⟨_, .load _ _, _, _, _, _⟩) ?_)
                     first
                       | refine wl_loadK hK rfl rfl rfl (scalT (by decide)) (h := ?_)
                       | refine wl_loadSK hK rfl rfl rfl (aggT (by decide)) (h := ?_)
                       | refine wl_loadA0 rfl rfl rfl (scalT (by decide)) (h := ?_)
                       | refine wl_loadA rfl rfl rfl (scalT (by decide)) (h := ?_)
                       | refine wl_loadSA rfl rfl rfl (aggT (by decide)) (h := ?_))
                  | (with_reducible refine atEnd_mk (by kernel_rfl) ?_))
                go_roundg ((L + D).toNat - (q + 1))
                case measure => omega
                case rel => exact ⟨q + 1, by go_num, rfl, by omega, hK.sub (.cons _ (List.Sublist.refl _))⟩
              · have hqe : (q : Int) + 1 = L + D := by omega
                by_cases hk1 : m.kind = 1
                · by_cases hn0 : 0 < n'
                  · skip
                    have kGx := Lib.hid (fun (W : World) (h : Has W (rConf c)) => kLg.out W { m with n := n', dst := dd } h ⟨HWU.out.x, HWU.out.y⟩ (HC.out.run hk1 hn0))
                    have dk : (m.kind == 1) = true := beq_iff_eq.2 hk1
                    have dk' : decide (m.kind = 1) = true := decide_eq_true hk1
                    have dk2 : (m.kind != 1) = false := by rw [bne, dk]; rfl
                    have dn : decide (0 < n') = true := decide_eq_true hn0
                    have dn2 : decide (n' < 0) = false := decide_eq_false (by omega)
                    have dn3 : decide (m.n < n') = false := decide_eq_false (by have := HC.out.n1; omega)
                    have dn4 : (n' == 0) = false := beq_eq_false_iff_ne.2 (by omega)
                    have dn4' : decide (n' = 0) = false := decide_eq_false (by omega)
                    clear hk1 hn0
                    have kTq := Lib.hid (fun (W : World) (S : Nat → Prop) (h : (rROB c.p 0 p (haltR m.src 0 9 { m with n := n', dst := dd } N L ct D q)).p W S) => kDone.out W S q ⟨by omega, hqe⟩ h)
                    have HTL := Lib.hid (show RM.tell 0 ⟨dd, 0, 9, 0, none, false, 0⟩ = (⟨4, 0, 9, 0, mvZ, dd, 0⟩ : Tele) from by
                      unfold RM.tell
                      rw [if_pos (by simp)])
                    have HT0 := Lib.hid (show [(⟨4, 0, 9, 0, mvZ, dd, 0⟩ : Tele)][0]? = some ⟨4, 0, 9, 0, mvZ, dd, 0⟩ from rfl)
                    have kPo := Lib.hid (fun (W : World) (h : Has W (rROB c.p 0 p ⟨dd, 0, 9, 0, none, false, 0⟩)) => rb_pose h)
                    have kLo := Lib.hid (fun (W : World) (h : Has W (rROB c.p 0 p ⟨dd, 0, 9, 0, none, false, 0⟩)) => rb_load h)
                    have kNo := Lib.hid (fun (W : World) (h : Has W (rROB c.p 0 p ⟨dd, 0, 9, 0, none, false, 0⟩)) => rb_now h)
                    have HQE := Lib.hid hqe
                    clear hqe
                    go_wp2_with (first
                      | (go_at_call 17; go_must (refine (hK.callsI (fun S hS => kTq.out _ _ hS)).mono ?_; clear hK; rintro e w' ⟨rfl, hK⟩; simp only [List.set_cons_zero, List.set_cons_succ] at hK))
                      | ((with_reducible refine wl_at (o := ⟨some 22, .alloc _, _, _, _, _⟩) ?_)
                         go_must (refine wl_allocK (z := .agg (moveZ).toArray) (zs := moveZ) hK rfl rfl (by kernel_rfl) rfl ?_; clear hK; intro w22 b22 hK))
                      | ((with_reducible refine wl_at (o := ⟨none, .store 41 (.tmp 22) _, _, _, _, _⟩) ?_)
                         go_must (refine wl_storeWK (vs := Go.Sk.Move.cells { m with n := n', dst := dd }) hK rfl rfl rfl rfl (aggS (by decide)) (move_one _) (h := ?_); clear hK; intro w' hK; simp only [List.set_cons_zero, List.set_cons_succ] at hK))
                      | ((with_reducible refine wp_region_stableK (id := 28) hK [12] [rBlk b22 (Go.Sk.Move.cells { m with n := n', dst := dd }) 41] (by kernel_rfl) (by kernel_rfl) (by simp) (by kernel_rfl) ?_); clear hK; intro w' hK)
                      | (with_reducible refine wpC_of ?_)
                      | (with_reducible refine atEndC (hK.cls (by simp)) ?_)
                      | ((with_reducible refine wpC_end' ?_); refine wpC_nil ⟨by kernel_rfl, stays_loadSP (Pose.cells dd) rfl rfl rfl rfl (aggT (by decide)) (rest := stays_nil), ?_⟩)
                      | ((with_reducible refine wl_at (o := ⟨some 132, .load _ _, _, _, _, _⟩) ?_); go_must (refine wl_loadPK (Pose.cells m.src) hK rfl rfl rfl (aggT (by decide)) (h := ?_)))
                      | ((with_reducible refine wl_at (o := ⟨some 135, .load _ _, _, _, _, _⟩) ?_); go_must (refine wl_loadPK (Pose.cells m.src) hK rfl rfl rfl (aggT (by decide)) (h := ?_)))
                      | ((with_reducible refine wl_at (o := ⟨some 136, _, _, _, _, _⟩) ?_); go_must (refine wl_neqPs m.src poseEq rfl rfl rfl rfl ?_))
                      | ((with_reducible refine wl_at (o := ⟨some 140, .load _ _, _, _, _, _⟩) ?_); go_must (refine wl_loadPK (Pose.cells dd) hK rfl rfl rfl (aggT (by decide)) (h := ?_)))
                      | ((with_reducible refine wl_at (o := ⟨some 143, _, _, _, _, _⟩) ?_); go_must (refine wl_neqPs dd poseEq rfl rfl rfl rfl ?_))
                      | (go_at_call 21; go_must (refine (hK.quiet (kPo.out _ hK.own)).mono ?_; clear hK; rintro e w' ⟨rfl, hK⟩))
                      | (go_at_call 23; go_must (refine (hK.quiet (kLo.out _ hK.own)).mono ?_; clear hK; rintro e w' ⟨rfl, hK⟩))
                      | (go_at_call 22; go_must (refine (hK.quiet (kNo.out _ hK.own)).mono ?_; clear hK; rintro e w' ⟨rfl, hK⟩))
                      | ((with_reducible refine wl_at (o := ⟨some 24, .alloc _, _, _, _, _⟩) ?_)
                         go_must (refine wl_allocK (z := .agg (moveZ).toArray) (zs := moveZ) hK rfl rfl (by kernel_rfl) rfl ?_; clear hK; intro w24 b24 hK))
                      | ((with_reducible refine wl_at (o := ⟨none, .store 41 (.tmp 24) _, _, _, _, _⟩) ?_)
                         go_must (refine wl_storeWK (vs := Go.Sk.Move.cells { m with n := n', dst := dd }) hK rfl rfl rfl rfl (aggS (by decide)) (move_one _) (h := ?_); clear hK; intro w' hK; simp only [List.set_cons_zero, List.set_cons_succ] at hK))
                      | (go_at_call 20; go_must (refine (hK.quiet (kGx.out _ hK.lent)).mono ?_; clear hK; rintro e w' ⟨rfl, hK⟩))
                      | (go_at_call 18; go_must (refine (rb_tell hK.own).mono ?_; rintro e w' ⟨adt, rfl, hT⟩; replace hK := hK.push1 hT; clear hT; rw [HTL.out] at hK; replace hK := hK.seen (r' := rRd elTele (.slice adt 1 1) [(⟨4, 0, 9, 0, mvZ, dd, 0⟩ : Tele)]) (fun _ _ h => rOw_rd h) Ix.head; simp only [List.set_cons_zero] at hK))
                      | ((with_reducible refine wl_at (o := ⟨some 26, .alloc _, _, _, _, _⟩) ?_)
                         go_must (refine wl_allocK (z := .agg (moveZ).toArray) (zs := moveZ) hK rfl rfl (by kernel_rfl) rfl ?_; clear hK; intro w26 b26 hK))
                      | ((with_reducible refine wl_at (o := ⟨none, .store 41 (.tmp 26) _, _, _, _, _⟩) ?_)
                         go_must (refine wl_storeWK (vs := Go.Sk.Move.cells mvZ) hK rfl rfl rfl rfl (aggS (by decide)) (move_one _) (h := ?_); clear hK; intro w' hK; simp only [List.set_cons_zero, List.set_cons_succ] at hK))
                      | ((with_reducible refine wp_region_stableK (id := 35) hK [10] [rRd elTele (.slice adt 1 1) [(⟨4, 0, 9, 0, mvZ, dd, 0⟩ : Tele)]] (by kernel_rfl) (by kernel_rfl) (by simp) (by kernel_rfl) ?_); clear hK; intro w' hK)
                      | (with_reducible refine wpC_of ?_)
                      | (with_reducible refine atEndC (hK.cls (by simp)) ?_)
                      | ((with_reducible refine wpC_end' ?_); refine wpC_nil ⟨by kernel_rfl, stays_loadSE (Tele.cells ⟨4, 0, 9, 0, mvZ, dd, 0⟩) rfl rfl rfl rfl (aggT (by decide)) hel225 (by simp) rfl rfl rfl stays_nil, ?_⟩)
                      | ((with_reducible refine wl_at (o := ⟨some 225, _, _, _, _, _⟩) ?_); go_must (refine wl_ixE (i := 0) (u := (⟨4, 0, 9, 0, mvZ, dd, 0⟩ : Tele)) hK rfl rfl rfl rfl teleTy18.und teleTy18.size (hu := HT0) (h := ?_); intro b225 k225 hat225 hel225))
                      | ((with_reducible refine wl_at (o := ⟨some 231, _, _, _, _, _⟩) ?_); go_must (refine wl_pure (v := .agg (Tele.cells ⟨4, 0, 9, 0, mvZ, dd, 0⟩).toArray) rfl (fun W => by kernel_rfl) ?_))
                      | ((with_reducible refine wl_at (o := ⟨some 232, _, _, _, _, _⟩) ?_); go_must (refine wl_eqlS (xs := Tele.cells ⟨4, 0, 9, 0, mvZ, dd, 0⟩) (ys := Tele.cells ⟨4, 0, 9, 0, mvZ, dd, 0⟩) rfl rfl rfl rfl teleEq18 (Tele.ks _) (Tele.ks _) ?_; rw [Tele.eq, decide_eq_true rfl]))
                      | (go_at_call 9; go_must (refine (hK.quiet (awake_calls hK.lent)).mono ?_; clear hK; rintro e w' ⟨rfl, hK⟩))
                      | go_big_skip
                      | go_big_skip
                      | ((with_reducible refine wl_at (o := ⟨_, .load _ _, _, _, _, _⟩) ?_)
                         first
                           | refine wl_loadK hK rfl rfl rfl (scalT (by decide)) (h := ?_)
                           | refine wl_loadSK hK rfl rfl rfl (aggT (by decide)) (h := ?_)
                           | refine wl_loadA0 rfl rfl rfl (scalT (by decide)) (h := ?_)
                           | refine wl_loadA rfl rfl rfl (scalT (by decide)) (h := ?_)
                           | refine wl_loadSA rfl rfl rfl (aggT (by decide)) (h := ?_))
                      | (with_reducible refine atEnd_mk (by kernel_rfl) ?_))
                    go_ret
                    exact ⟨rfl, hK.mod⟩

                  · skip
                    have hn00 : n' = 0 := by have := HC.out.n0; omega
                    have hdd := HC.out.none hk1 hn00
                    subst hn00
                    subst hdd
                    have dk : (m.kind == 1) = true := beq_iff_eq.2 hk1
                    have dk' : decide (m.kind = 1) = true := decide_eq_true hk1
                    have dk2 : (m.kind != 1) = false := by rw [bne, dk]; rfl
                    have dn3 : decide (m.n < 0) = false := decide_eq_false (by omega)
                    clear hk1 hn0
                    have kTq := Lib.hid (fun (W : World) (S : Nat → Prop) (h : (rROB c.p 0 p (haltR m.src 0 9 { m with n := 0, dst := m.src } N L ct D q)).p W S) => kDone.out W S q ⟨by omega, hqe⟩ h)
                    have HTL := Lib.hid (show RM.tell 0 ⟨m.src, 0, 9, 0, none, false, 0⟩ = (⟨4, 0, 9, 0, mvZ, m.src, 0⟩ : Tele) from by
                      unfold RM.tell
                      rw [if_pos (by simp)])
                    have HT0 := Lib.hid (show [(⟨4, 0, 9, 0, mvZ, m.src, 0⟩ : Tele)][0]? = some ⟨4, 0, 9, 0, mvZ, m.src, 0⟩ from rfl)
                    have kPo := Lib.hid (fun (W : World) (h : Has W (rROB c.p 0 p ⟨m.src, 0, 9, 0, none, false, 0⟩)) => rb_pose h)
                    have kLo := Lib.hid (fun (W : World) (h : Has W (rROB c.p 0 p ⟨m.src, 0, 9, 0, none, false, 0⟩)) => rb_load h)
                    have kNo := Lib.hid (fun (W : World) (h : Has W (rROB c.p 0 p ⟨m.src, 0, 9, 0, none, false, 0⟩)) => rb_now h)
                    have HQE := Lib.hid hqe
                    clear hqe
                    go_wp2_with (first
                      | (go_at_call 17; go_must (refine (hK.callsI (fun S hS => kTq.out _ _ hS)).mono ?_; clear hK; rintro e w' ⟨rfl, hK⟩; simp only [List.set_cons_zero, List.set_cons_succ] at hK))
                      | ((with_reducible refine wl_at (o := ⟨some 22, .alloc _, _, _, _, _⟩) ?_)
                         go_must (refine wl_allocK (z := .agg (moveZ).toArray) (zs := moveZ) hK rfl rfl (by kernel_rfl) rfl ?_; clear hK; intro w22 b22 hK))
                      | ((with_reducible refine wl_at (o := ⟨none, .store 41 (.tmp 22) _, _, _, _, _⟩) ?_)
                         go_must (refine wl_storeWK (vs := Go.Sk.Move.cells { m with n := 0, dst := m.src }) hK rfl rfl rfl rfl (aggS (by decide)) (move_one _) (h := ?_); clear hK; intro w' hK; simp only [List.set_cons_zero, List.set_cons_succ] at hK))
                      | ((with_reducible refine wp_region_stableK (id := 28) hK [12] [rBlk b22 (Go.Sk.Move.cells { m with n := 0, dst := m.src }) 41] (by kernel_rfl) (by kernel_rfl) (by simp) (by kernel_rfl) ?_); clear hK; intro w' hK)
                      | (with_reducible refine wpC_of ?_)
                      | (with_reducible refine atEndC (hK.cls (by simp)) ?_)
                      | ((with_reducible refine wpC_end' ?_); refine wpC_nil ⟨by kernel_rfl, stays_loadSP (Pose.cells m.src) rfl rfl rfl rfl (aggT (by decide)) (rest := stays_nil), ?_⟩)
                      | ((with_reducible refine wl_at (o := ⟨some 132, .load _ _, _, _, _, _⟩) ?_); go_must (refine wl_loadPK (Pose.cells m.src) hK rfl rfl rfl (aggT (by decide)) (h := ?_)))
                      | ((with_reducible refine wl_at (o := ⟨some 135, .load _ _, _, _, _, _⟩) ?_); go_must (refine wl_loadPK (Pose.cells m.src) hK rfl rfl rfl (aggT (by decide)) (h := ?_)))
                      | ((with_reducible refine wl_at (o := ⟨some 136, _, _, _, _, _⟩) ?_); go_must (refine wl_neqPs m.src poseEq rfl rfl rfl rfl ?_))
                      | ((with_reducible refine wl_at (o := ⟨some 140, .load _ _, _, _, _, _⟩) ?_); go_must (refine wl_loadPK (Pose.cells m.src) hK rfl rfl rfl (aggT (by decide)) (h := ?_)))
                      | ((with_reducible refine wl_at (o := ⟨some 143, _, _, _, _, _⟩) ?_); go_must (refine wl_neqPs m.src poseEq rfl rfl rfl rfl ?_))
                      | (go_at_call 21; go_must (refine (hK.quiet (kPo.out _ hK.own)).mono ?_; clear hK; rintro e w' ⟨rfl, hK⟩))
                      | (go_at_call 23; go_must (refine (hK.quiet (kLo.out _ hK.own)).mono ?_; clear hK; rintro e w' ⟨rfl, hK⟩))
                      | (go_at_call 22; go_must (refine (hK.quiet (kNo.out _ hK.own)).mono ?_; clear hK; rintro e w' ⟨rfl, hK⟩))
                      | ((with_reducible refine wl_at (o := ⟨some 24, .alloc _, _, _, _, _⟩) ?_)
                         go_must (refine wl_allocK (z := .agg (moveZ).toArray) (zs := moveZ) hK rfl rfl (by kernel_rfl) rfl ?_; clear hK; intro w24 b24 hK))
                      | ((with_reducible refine wl_at (o := ⟨none, .store 41 (.tmp 24) _, _, _, _, _⟩) ?_)
                         go_must (refine wl_storeWK (vs := Go.Sk.Move.cells { m with n := 0, dst := m.src }) hK rfl rfl rfl rfl (aggS (by decide)) (move_one _) (h := ?_); clear hK; intro w' hK; simp only [List.set_cons_zero, List.set_cons_succ] at hK))
                      | ((with_reducible refine wl_at (o := ⟨some 192, .load _ _, _, _, _, _⟩) ?_); go_must (refine wl_loadPK (Pose.cells m.src) hK rfl rfl rfl (aggT (by decide)) (h := ?_)))
                      | ((with_reducible refine wl_at (o := ⟨some 194, .load _ _, _, _, _, _⟩) ?_); go_must (refine wl_loadPK (Pose.cells m.src) hK rfl rfl rfl (aggT (by decide)) (h := ?_)))
                      | ((with_reducible refine wl_at (o := ⟨some 195, _, _, _, _, _⟩) ?_); go_must (refine wl_neqPs m.src poseEq rfl rfl rfl rfl ?_))
                      | (go_at_call 18; go_must (refine (rb_tell hK.own).mono ?_; rintro e w' ⟨adt, rfl, hT⟩; replace hK := hK.push1 hT; clear hT; rw [HTL.out] at hK; replace hK := hK.seen (r' := rRd elTele (.slice adt 1 1) [(⟨4, 0, 9, 0, mvZ, m.src, 0⟩ : Tele)]) (fun _ _ h => rOw_rd h) Ix.head; simp only [List.set_cons_zero] at hK))
                      | ((with_reducible refine wl_at (o := ⟨some 26, .alloc _, _, _, _, _⟩) ?_)
                         go_must (refine wl_allocK (z := .agg (moveZ).toArray) (zs := moveZ) hK rfl rfl (by kernel_rfl) rfl ?_; clear hK; intro w26 b26 hK))
                      | ((with_reducible refine wl_at (o := ⟨none, .store 41 (.tmp 26) _, _, _, _, _⟩) ?_)
                         go_must (refine wl_storeWK (vs := Go.Sk.Move.cells mvZ) hK rfl rfl rfl rfl (aggS (by decide)) (move_one _) (h := ?_); clear hK; intro w' hK; simp only [List.set_cons_zero, List.set_cons_succ] at hK))
                      | ((with_reducible refine wp_region_stableK (id := 35) hK [10] [rRd elTele (.slice adt 1 1) [(⟨4, 0, 9, 0, mvZ, m.src, 0⟩ : Tele)]] (by kernel_rfl) (by kernel_rfl) (by simp) (by kernel_rfl) ?_); clear hK; intro w' hK)
                      | (with_reducible refine wpC_of ?_)
                      | (with_reducible refine atEndC (hK.cls (by simp)) ?_)
                      | ((with_reducible refine wpC_end' ?_); refine wpC_nil ⟨by kernel_rfl, stays_loadSE (Tele.cells ⟨4, 0, 9, 0, mvZ, m.src, 0⟩) rfl rfl rfl rfl (aggT (by decide)) hel225 (by simp) rfl rfl rfl stays_nil, ?_⟩)
                      | ((with_reducible refine wl_at (o := ⟨some 225, _, _, _, _, _⟩) ?_); go_must (refine wl_ixE (i := 0) (u := (⟨4, 0, 9, 0, mvZ, m.src, 0⟩ : Tele)) hK rfl rfl rfl rfl teleTy18.und teleTy18.size (hu := HT0) (h := ?_); intro b225 k225 hat225 hel225))
                      | ((with_reducible refine wl_at (o := ⟨some 231, _, _, _, _, _⟩) ?_); go_must (refine wl_pure (v := .agg (Tele.cells ⟨4, 0, 9, 0, mvZ, m.src, 0⟩).toArray) rfl (fun W => by kernel_rfl) ?_))
                      | ((with_reducible refine wl_at (o := ⟨some 232, _, _, _, _, _⟩) ?_); go_must (refine wl_eqlS (xs := Tele.cells ⟨4, 0, 9, 0, mvZ, m.src, 0⟩) (ys := Tele.cells ⟨4, 0, 9, 0, mvZ, m.src, 0⟩) rfl rfl rfl rfl teleEq18 (Tele.ks _) (Tele.ks _) ?_; rw [Tele.eq, decide_eq_true rfl]))
                      | (go_at_call 9; go_must (refine (hK.quiet (awake_calls hK.lent)).mono ?_; clear hK; rintro e w' ⟨rfl, hK⟩))
                      | go_big_skip
                      | go_big_skip
                      | ((with_reducible refine wl_at (o := ⟨_, .load _ _, _, _, _, _⟩) ?_)
                         first
                           | refine wl_loadK hK rfl rfl rfl (scalT (by decide)) (h := ?_)
                           | refine wl_loadSK hK rfl rfl rfl (aggT (by decide)) (h := ?_)
                           | refine wl_loadA0 rfl rfl rfl (scalT (by decide)) (h := ?_)
                           | refine wl_loadA rfl rfl rfl (scalT (by decide)) (h := ?_)
                           | refine wl_loadSA rfl rfl rfl (aggT (by decide)) (h := ?_))
                      | (with_reducible refine atEnd_mk (by kernel_rfl) ?_))
                    go_ret
                    exact ⟨rfl, hK.mod⟩

                · skip
                  obtain ⟨hnn, hdd⟩ := HC.out.same hk1
                  subst hnn
                  subst hdd
                  have dk : (m.kind == 1) = false := beq_eq_false_iff_ne.2 hk1
                  have dk' : decide (m.kind = 1) = false := decide_eq_false hk1
                  have dk2 : (m.kind != 1) = true := by rw [bne, dk]; rfl
                  have dn2 : decide (m.n < 0) = false := decide_eq_false (by omega)
                  clear hk1
                  have kTq := Lib.hid (fun (W : World) (S : Nat → Prop) (h : (rROB c.p 0 p (haltR m.src 0 9 { m with n := m.n, dst := m.dst } N L ct D q)).p W S) => kDone.out W S q ⟨by omega, hqe⟩ h)
                  have HTL := Lib.hid (show RM.tell 0 ⟨m.dst, 0, 9, 0, none, false, 0⟩ = (⟨4, 0, 9, 0, mvZ, m.dst, 0⟩ : Tele) from by
                    unfold RM.tell
                    rw [if_pos (by simp)])
                  have HT0 := Lib.hid (show [(⟨4, 0, 9, 0, mvZ, m.dst, 0⟩ : Tele)][0]? = some ⟨4, 0, 9, 0, mvZ, m.dst, 0⟩ from rfl)
                  have kPo := Lib.hid (fun (W : World) (h : Has W (rROB c.p 0 p ⟨m.dst, 0, 9, 0, none, false, 0⟩)) => rb_pose h)
                  have kLo := Lib.hid (fun (W : World) (h : Has W (rROB c.p 0 p ⟨m.dst, 0, 9, 0, none, false, 0⟩)) => rb_load h)
                  have kNo := Lib.hid (fun (W : World) (h : Has W (rROB c.p 0 p ⟨m.dst, 0, 9, 0, none, false, 0⟩)) => rb_now h)
                  have HQE := Lib.hid hqe
                  clear hqe
                  go_wp2_with (first
                    | (go_at_call 17; go_must (refine (hK.callsI (fun S hS => kTq.out _ _ hS)).mono ?_; clear hK; rintro e w' ⟨rfl, hK⟩; simp only [List.set_cons_zero, List.set_cons_succ] at hK))
                    | ((with_reducible refine wl_at (o := ⟨some 22, .alloc _, _, _, _, _⟩) ?_)
                       go_must (refine wl_allocK (z := .agg (moveZ).toArray) (zs := moveZ) hK rfl rfl (by kernel_rfl) rfl ?_; clear hK; intro w22 b22 hK))
                    | ((with_reducible refine wl_at (o := ⟨none, .store 41 (.tmp 22) _, _, _, _, _⟩) ?_)
                       go_must (refine wl_storeWK (vs := Go.Sk.Move.cells m) hK rfl rfl rfl rfl (aggS (by decide)) (move_one _) (h := ?_); clear hK; intro w' hK; simp only [List.set_cons_zero, List.set_cons_succ] at hK))
                    | ((with_reducible refine wp_region_stableK (id := 28) hK [12] [rBlk b22 (Go.Sk.Move.cells m) 41] (by kernel_rfl) (by kernel_rfl) (by simp) (by kernel_rfl) ?_); clear hK; intro w' hK)
                    | (with_reducible refine wpC_of ?_)
                    | (with_reducible refine atEndC (hK.cls (by simp)) ?_)
                    | ((with_reducible refine wpC_end' ?_); refine wpC_nil ⟨by kernel_rfl, stays_loadSP (Pose.cells m.dst) rfl rfl rfl rfl (aggT (by decide)) (rest := stays_nil), ?_⟩)
                    | ((with_reducible refine wl_at (o := ⟨some 132, .load _ _, _, _, _, _⟩) ?_); go_must (refine wl_loadPK (Pose.cells m.src) hK rfl rfl rfl (aggT (by decide)) (h := ?_)))
                    | ((with_reducible refine wl_at (o := ⟨some 135, .load _ _, _, _, _, _⟩) ?_); go_must (refine wl_loadPK (Pose.cells m.src) hK rfl rfl rfl (aggT (by decide)) (h := ?_)))
                    | ((with_reducible refine wl_at (o := ⟨some 136, _, _, _, _, _⟩) ?_); go_must (refine wl_neqPs m.src poseEq rfl rfl rfl rfl ?_))
                    | ((with_reducible refine wl_at (o := ⟨some 140, .load _ _, _, _, _, _⟩) ?_); go_must (refine wl_loadPK (Pose.cells m.dst) hK rfl rfl rfl (aggT (by decide)) (h := ?_)))
                    | ((with_reducible refine wl_at (o := ⟨some 143, _, _, _, _, _⟩) ?_); go_must (refine wl_neqPs m.dst poseEq rfl rfl rfl rfl ?_))
                    | (go_at_call 21; go_must (refine (hK.quiet (kPo.out _ hK.own)).mono ?_; clear hK; rintro e w' ⟨rfl, hK⟩))
                    | (go_at_call 23; go_must (refine (hK.quiet (kLo.out _ hK.own)).mono ?_; clear hK; rintro e w' ⟨rfl, hK⟩))
                    | (go_at_call 22; go_must (refine (hK.quiet (kNo.out _ hK.own)).mono ?_; clear hK; rintro e w' ⟨rfl, hK⟩))
                    | ((with_reducible refine wl_at (o := ⟨some 24, .alloc _, _, _, _, _⟩) ?_)
                       go_must (refine wl_allocK (z := .agg (moveZ).toArray) (zs := moveZ) hK rfl rfl (by kernel_rfl) rfl ?_; clear hK; intro w24 b24 hK))
                    | ((with_reducible refine wl_at (o := ⟨none, .store 41 (.tmp 24) _, _, _, _, _⟩) ?_)
                       go_must (refine wl_storeWK (vs := Go.Sk.Move.cells m) hK rfl rfl rfl rfl (aggS (by decide)) (move_one _) (h := ?_); clear hK; intro w' hK; simp only [List.set_cons_zero, List.set_cons_succ] at hK))
                    | ((with_reducible refine wl_at (o := ⟨some 205, .load _ _, _, _, _, _⟩) ?_); go_must (refine wl_loadPK (Go.Sk.Move.cells m) hK rfl rfl rfl (aggT (by decide)) (h := ?_)))
                    | ((with_reducible refine wl_at (o := ⟨some 206, _, _, _, _, _⟩) ?_); go_must (refine wl_neqMs m moveEq rfl rfl rfl rfl ?_))
                    | (go_at_call 18; go_must (refine (rb_tell hK.own).mono ?_; rintro e w' ⟨adt, rfl, hT⟩; replace hK := hK.push1 hT; clear hT; rw [HTL.out] at hK; replace hK := hK.seen (r' := rRd elTele (.slice adt 1 1) [(⟨4, 0, 9, 0, mvZ, m.dst, 0⟩ : Tele)]) (fun _ _ h => rOw_rd h) Ix.head; simp only [List.set_cons_zero] at hK))
                    | ((with_reducible refine wl_at (o := ⟨some 26, .alloc _, _, _, _, _⟩) ?_)
                       go_must (refine wl_allocK (z := .agg (moveZ).toArray) (zs := moveZ) hK rfl rfl (by kernel_rfl) rfl ?_; clear hK; intro w26 b26 hK))
                    | ((with_reducible refine wl_at (o := ⟨none, .store 41 (.tmp 26) _, _, _, _, _⟩) ?_)
                       go_must (refine wl_storeWK (vs := Go.Sk.Move.cells mvZ) hK rfl rfl rfl rfl (aggS (by decide)) (move_one _) (h := ?_); clear hK; intro w' hK; simp only [List.set_cons_zero, List.set_cons_succ] at hK))
                    | ((with_reducible refine wp_region_stableK (id := 35) hK [10] [rRd elTele (.slice adt 1 1) [(⟨4, 0, 9, 0, mvZ, m.dst, 0⟩ : Tele)]] (by kernel_rfl) (by kernel_rfl) (by simp) (by kernel_rfl) ?_); clear hK; intro w' hK)
                    | (with_reducible refine wpC_of ?_)
                    | (with_reducible refine atEndC (hK.cls (by simp)) ?_)
                    | ((with_reducible refine wpC_end' ?_); refine wpC_nil ⟨by kernel_rfl, stays_loadSE (Tele.cells ⟨4, 0, 9, 0, mvZ, m.dst, 0⟩) rfl rfl rfl rfl (aggT (by decide)) hel225 (by simp) rfl rfl rfl stays_nil, ?_⟩)
                    | ((with_reducible refine wl_at (o := ⟨some 225, _, _, _, _, _⟩) ?_); go_must (refine wl_ixE (i := 0) (u := (⟨4, 0, 9, 0, mvZ, m.dst, 0⟩ : Tele)) hK rfl rfl rfl rfl teleTy18.und teleTy18.size (hu := HT0) (h := ?_); intro b225 k225 hat225 hel225))
                    | ((with_reducible refine wl_at (o := ⟨some 231, _, _, _, _, _⟩) ?_); go_must (refine wl_pure (v := .agg (Tele.cells ⟨4, 0, 9, 0, mvZ, m.dst, 0⟩).toArray) rfl (fun W => by kernel_rfl) ?_))
                    | ((with_reducible refine wl_at (o := ⟨some 232, _, _, _, _, _⟩) ?_); go_must (refine wl_eqlS (xs := Tele.cells ⟨4, 0, 9, 0, mvZ, m.dst, 0⟩) (ys := Tele.cells ⟨4, 0, 9, 0, mvZ, m.dst, 0⟩) rfl rfl rfl rfl teleEq18 (Tele.ks _) (Tele.ks _) ?_; rw [Tele.eq, decide_eq_true rfl]))
                    | (go_at_call 9; go_must (refine (hK.quiet (awake_calls hK.lent)).mono ?_; clear hK; rintro e w' ⟨rfl, hK⟩))
                    | go_big_skip
                    | go_big_skip
                    | ((with_reducible refine wl_at (o := ⟨_, .load _ _, _, _, _, _⟩) ?_)
                       first
                         | refine wl_loadK hK rfl rfl rfl (scalT (by decide)) (h := ?_)
                         | refine wl_loadSK hK rfl rfl rfl (aggT (by decide)) (h := ?_)
                         | refine wl_loadA0 rfl rfl rfl (scalT (by decide)) (h := ?_)
                         | refine wl_loadA rfl rfl rfl (scalT (by decide)) (h := ?_)
                         | refine wl_loadSA rfl rfl rfl (aggT (by decide)) (h := ?_))
                    | (with_reducible refine atEnd_mk (by kernel_rfl) ?_))
                  go_ret
                  exact ⟨rfl, hK.mod⟩

end Go.Proofs.YtcjpnlplibaffaaGreatDoor
