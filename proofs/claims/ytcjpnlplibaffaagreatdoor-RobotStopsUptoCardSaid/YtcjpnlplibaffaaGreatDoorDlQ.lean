/- RobotDelays. -/
import Derived.Test.YtcjpnlplibaffaaGreatDoorRgC
import Derived.Test.YtcjpnlplibaffaaGreatDoorRbA
import Derived.Test.YtcjpnlplibaffaaGreatDoorSkFloatQ
set_option linter.all false
namespace Go.Proofs.YtcjpnlplibaffaaGreatDoor
open Go Go.Sk Go.RowKit
set_option maxRecDepth 100000

theorem teleEq18 : eqTy Tryz.prog 43 teleKs = true := by kernel_rfl
theorem teleTy18 : SliceTy Tryz.prog 47 43 elTele.sz 152 (Tele.cells ⟨0, 0, 0, 0, mvZ, poseO, 0⟩) :=
  SliceTy.mk' (z := .agg (Tele.cells ⟨0, 0, 0, 0, mvZ, poseO, 0⟩).toArray) (by kernel_rfl) (by kernel_rfl) rfl rfl
theorem home_fits {c : ConfV} {u : Pose} (hm : MayP c.p) (h : c.robots.l[0]? = some u) : fitsB c.p u = true := by
  exact hm.fits u (List.mem_of_getElem? h)

open Classical in
set_option maxHeartbeats 8000000 in
theorem delays_calls {c : ConfV} {pick : Int} {sv : Value} {l : List Int} {w : World} (hc : Has w (rConf c)) (hst : Has w stepsR) (hu : Upto c) (hwf : ∀ p ∈ c.robots.l, PoseWf p) (_hp : -9223372036854775808 ≤ pick ∧ pick ≤ 9223372036854775807) (hs1 : Rd w elInt sv l) (hs2 : l.length ≤ 1048576) :
    Calls Tryz.prog 3 #[.agg c.cells.toArray, .int .i64 pick, sv] w (Ret (.bool true) w) := by
  have hK : Know w w none' [] [rRd elInt sv l, rConf c, stepsR] := Know.start (L := [rRd elInt sv l, rConf c, stepsR]) w (by
    intro r hr
    simp only [List.mem_cons, List.not_mem_nil, or_false] at hr
    rcases hr with rfl | rfl | rfl
    · exact hs1.has
    · exact hc
    · exact hst)
  obtain ⟨sa, sc, rfl⟩ := hs1.vee
  clear hc hst hs1
  obtain ⟨sm, hsm⟩ : ∃ sm, decide (smallB c.p) = sm := ⟨_, rfl⟩
  have HS := Lib.hid hsm
  cases sm with
  | false =>
    clear hsm
    go_enter Tryz.func3, Tryz.ntmps3
    go_wp2_with (first
      | ((with_reducible refine wl_at (o := ⟨some 3, .box _ _, _, _, _, _⟩) ?_)
         go_must (refine wl_boxK hK rfl rfl rfl rfl ?_; clear hK; intro w3 b3 hK))
      | (go_at_call 8; go_must (refine (hK.quiet (kn_small HS.out hu hK.lent)).mono ?_; clear hK; rintro e w' ⟨rfl, hK⟩))
      | (go_at_call 9; go_must (refine (hK.quiet (awake_calls hK.lent)).mono ?_; clear hK; rintro e w' ⟨rfl, hK⟩))
      | go_big_skip
      | go_big_skip
      | ((with_reducible refine wl_at (o := ⟨_, .load _ _, _, _, _, _⟩) ?_)
         first
           | refine wl_loadK hK rfl rfl rfl (scalT (by decide)) (h := ?_)
           | refine wl_loadSK hK rfl rfl rfl (aggT (by decide)) (h := ?_)
           | refine wl_loadA0 rfl rfl rfl (scalT (by decide)) (h := ?_)
           | refine wl_loadA rfl rfl rfl (scalT (by decide)) (h := ?_)
           | refine wl_loadSA rfl rfl rfl (aggT (by decide)) (h := ?_))
      | (with_reducible refine atEnd_mk (by kernel_rfl) ?_))
    go_ret
    exact ⟨rfl, hK.mod⟩
  | true =>
    have hm : MayP c.p := (of_decide_eq_true hsm).2.2.2.2.2.2.2
    clear hsm
    by_cases hrl : c.robots.l.length = 0
    · have d0 : ((c.robots.l.length : Int) == 0) = true := by rw [hrl]; rfl
      have d0' : decide ((c.robots.l.length : Int) = 0) = true := by rw [hrl]; rfl
      have HRL := Lib.hid hrl
      clear hrl
      go_enter Tryz.func3, Tryz.ntmps3
      go_wp2_with (first
        | ((with_reducible refine wl_at (o := ⟨some 3, .box _ _, _, _, _, _⟩) ?_)
           go_must (refine wl_boxK hK rfl rfl rfl rfl ?_; clear hK; intro w3 b3 hK))
        | (go_at_call 8; go_must (refine (hK.quiet (kn_small HS.out hu hK.lent)).mono ?_; clear hK; rintro e w' ⟨rfl, hK⟩))
        | (go_at_call 9; go_must (refine (hK.quiet (awake_calls hK.lent)).mono ?_; clear hK; rintro e w' ⟨rfl, hK⟩))
        | go_big_skip
        | go_big_skip
        | ((with_reducible refine wl_at (o := ⟨_, .load _ _, _, _, _, _⟩) ?_)
           first
             | refine wl_loadK hK rfl rfl rfl (scalT (by decide)) (h := ?_)
             | refine wl_loadSK hK rfl rfl rfl (aggT (by decide)) (h := ?_)
             | refine wl_loadA0 rfl rfl rfl (scalT (by decide)) (h := ?_)
             | refine wl_loadA rfl rfl rfl (scalT (by decide)) (h := ?_)
             | refine wl_loadSA rfl rfl rfl (aggT (by decide)) (h := ?_))
        | (with_reducible refine atEnd_mk (by kernel_rfl) ?_))
      go_ret
      exact ⟨rfl, hK.mod⟩
    · obtain ⟨u, hu0⟩ : ∃ u, c.robots.l[0]? = some u := ⟨_, List.getElem?_eq_getElem (by omega)⟩
      have hpw := hwf u (List.mem_of_getElem? hu0)
      have HU := Lib.hid hu0
      have HM := Lib.hid hm
      have HW := Lib.hid hwf
      have d0 : ((c.robots.l.length : Int) == 0) = false := beq_eq_false_iff_ne.2 (by omega)
      have d0' : decide ((c.robots.l.length : Int) = 0) = false := decide_eq_false (by omega)
      have HOK := Lib.hid (RMOk.start (c := c.p) (p := u) ⟨hpw.x, hpw.y⟩)
      have hkin := Lib.hid (kinOf_ok hm)
      have kD0 := Lib.hid (fun (W : World) (S : Nat → Prop) (p : Nat) (h : (rROB c.p 0 p (RM.start u)).p W S) => (show Calls Tryz.prog 12 #[.pointer (some ⟨p, 0, none⟩), .int .i64 50] W fun e w' => e = .returned (.tuple #[]) ∧ Turn (rROB c.p 0 p (RM.start u)) W w' S from rb_delay (d := 50) HOK.out h))
      have kN := Lib.hid (fun (W : World) (h : Has W (rConf c)) => ref_new h hu0)
      have kG := Lib.hid (fun (W : World) (q : Nat) (h1 : Has W (rConf c)) (h2 : Has W (rBlk q ((R18.start 0 u).cells c) 70)) => show Calls Tryz.prog 13 #[.agg c.cells.toArray, .pointer (some ⟨q, 0, none⟩), .int .i64 pick, .int .i64 1] W fun e w' => ∃ m, e = .returned (.agg (Tele.cells ⟨1, 0, 0, 1, m, poseO, 0⟩).toArray) ∧ Hid (GosOk c.p u m) ∧ Mod none' W w' from gos_calls (r := R18.start 0 u) (n := pick) (late := 1) hm h1 h2 hu.sized hpw (home_fits hm hu0) (by simp [R18.start]))
      have HWU := Lib.hid (show WfP u from ⟨hpw.x, hpw.y⟩)
      clear hm hwf hu0 hrl hpw
      go_enter Tryz.func3, Tryz.ntmps3
      go_wp2_with (first
        | ((with_reducible refine wl_at (o := ⟨some 3, .box _ _, _, _, _, _⟩) ?_)
           go_must (refine wl_boxK hK rfl rfl rfl rfl ?_; clear hK; intro w3 b3 hK))
        | (go_at_call 8; go_must (refine (hK.quiet (kn_small HS.out hu hK.lent)).mono ?_; clear hK; rintro e w' ⟨rfl, hK⟩))
        | (go_at_call 11; go_must (refine (dup_calls (c := c) hK.lent hu).mono ?_; rintro e w' ⟨d, rfl, hd, hT⟩; replace hK := hK.push1 hT; have HD := Lib.hid hd; clear hT hd))
        | (go_at_call 12; go_must (refine (hK.callsI (fun S hS => kD0.out _ _ _ hS)).mono ?_; clear hK; rintro e w' ⟨rfl, hK⟩; simp only [List.set_cons_zero, List.set_cons_succ] at hK))
        | (go_at_call 10; go_must (refine (rb_newD HM.out HD.out hu HW.out HU.out hK.own hK.lent).mono ?_; rintro e w' ⟨p, rfl, hT⟩; replace hK := hK.push1 hT; clear hT))
        | go_big_skip
        | go_big_skip
        | ((with_reducible refine wl_at (o := ⟨_, .load _ _, _, _, _, _⟩) ?_)
           first
             | refine wl_loadK hK rfl rfl rfl (scalT (by decide)) (h := ?_)
             | refine wl_loadSK hK rfl rfl rfl (aggT (by decide)) (h := ?_)
             | refine wl_loadA0 rfl rfl rfl (scalT (by decide)) (h := ?_)
             | refine wl_loadA rfl rfl rfl (scalT (by decide)) (h := ?_)
             | refine wl_loadSA rfl rfl rfl (aggT (by decide)) (h := ?_))
        | (with_reducible refine atEnd_mk (by kernel_rfl) ?_))
      refine wp_region_floatK (id := 7) hK 5 [0, 1] [rBlk b3 c.cells 26] [0, 1, 2, 3, 4, 5, 6] [2, 4, 5, 6] (fun a a' w' => ∃ (b9 : Nat) (q : Value) (m : Go.Sk.Move), a' = (((((((a.put (some 45) (.agg c.cells.toArray)).put (some 46) (.agg c.cells.toArray)).put (some 47) q).put (some 48) (.int .i64 pick)).put (some 49) (.agg (Tele.cells ⟨1, 0, 0, 1, m, poseO, 0⟩).toArray)).put (some 9) (.pointer (some ⟨b9, 0, none⟩)))).put none undef ∧ Hid (GosOk c.p u m) ∧ Know w w' none' [rBlk b9 (Tele.cells ⟨1, 0, 0, 1, m, poseO, 0⟩) 43, rROB c.p 0 p (RM.start u)] [rRd elInt (.slice sa l.length sc) l, rConf c, stepsR]) (by kernel_rfl) (by kernel_rfl) (by kernel_rfl) (by kernel_rfl) (by simp) (fun w' hK2 => ?_) (fun a' w' hI => ?_)
      · clear hK
        have hK := hK2
        clear hK2
        go_wp2_with (first
          | (with_reducible refine wpGB_loud 2 [5, 2, 3, 4, 6] (by decide) (by decide) (by decide) ?_ ?_)
          | (with_reducible refine wpGB_loud 4 [5, 4, 6] (by decide) (by decide) (by decide) ?_ ?_)
          | (with_reducible refine wpGB_here (i := 5) (by decide) ?_)
          | (with_reducible refine wpGB_soft (by decide) (by decide) ?_)
          | ((with_reducible refine stepU_at 0 ?_); go_must (refine stepU_loadSK (op_of rfl) (by decide) rfl rfl rfl (aggT (by decide)) (h := ?_); intro w' hM; replace hK := hK.same hM; clear hM))
          | ((with_reducible refine stepU_at 1 ?_); go_must (refine stepU_loadSK (op_of rfl) (by decide) rfl rfl rfl (aggT (by decide)) (h := ?_); intro w' hM; replace hK := hK.same hM; clear hM))
          | (with_reducible refine wpGI_of ?_)
          | ((with_reducible refine stepU_at _ ?_); go_must (refine stepU_of (op_of rfl) (by decide) ?_; intro w' hM; replace hK := hK.same hM; clear hM))
          | (with_reducible refine atEndC (hK.clsG (by simp)) ?_)
          | ((with_reducible refine wpGI_nil ?_); intro w' hM; replace hK := hK.same hM; clear hM; refine ⟨by kernel_rfl, ?_⟩; first | exact ⟨b9, .pointer (some ⟨q, 0, none⟩), m, by kernel_rfl, hg, hK.sub (.cons_cons _ (.cons _ (.cons_cons _ (.cons _ (.cons _ .slnil)))))⟩ | exact ⟨b9, .pointer (some ⟨q, 0, none⟩), m, by kernel_rfl, hg, hK.sub (.cons _ (.cons_cons _ (.cons_cons _ (.cons _ (.cons _ .slnil)))))⟩)
          | (go_at_call 14; go_must (refine (kN.out _ hK.lent).mono ?_; rintro e w' ⟨q, rfl, hT⟩; replace hK := hK.push1 hT; clear hT))
          | (go_at_call 13; go_must (refine (kG.out _ q hK.lent hK.own).mono ?_; rintro e w' ⟨m, rfl, hg, hM⟩; replace hK := hK.same hM; clear hM))
          | ((with_reducible refine wl_at (o := ⟨some 9, .alloc _, _, _, _, _⟩) ?_)
             go_must (refine wl_allocK (z := .agg (Tele.cells ⟨0, 0, 0, 0, mvZ, poseO, 0⟩).toArray) (zs := Tele.cells ⟨0, 0, 0, 0, mvZ, poseO, 0⟩) hK rfl rfl (by kernel_rfl) rfl ?_; clear hK; intro w9 b9 hK))
          | ((with_reducible refine wl_at (o := ⟨none, .store 43 _ _, _, _, _, _⟩) ?_)
             go_must (refine wl_storeWK (vs := Tele.cells ⟨1, 0, 0, 1, m, poseO, 0⟩) hK rfl rfl rfl rfl (aggS (by decide)) (elTele.one _) (h := ?_); clear hK; intro w' hK; simp only [List.set_cons_zero, List.set_cons_succ] at hK))
          | go_big_skip
          | go_big_skip
          | ((with_reducible refine wl_at (o := ⟨_, .load _ _, _, _, _, _⟩) ?_)
             first
               | refine wl_loadK hK rfl rfl rfl (scalT (by decide)) (h := ?_)
               | refine wl_loadSK hK rfl rfl rfl (aggT (by decide)) (h := ?_)
               | refine wl_loadA0 rfl rfl rfl (scalT (by decide)) (h := ?_)
               | refine wl_loadA rfl rfl rfl (scalT (by decide)) (h := ?_)
               | refine wl_loadSA rfl rfl rfl (aggT (by decide)) (h := ?_))
          | (with_reducible refine atEnd_mk (by kernel_rfl) ?_))
      · obtain ⟨b9, q, m, rfl, hg, hK⟩ := hI
        obtain ⟨T, hT⟩ : ∃ T, lastsP c.p m = T := ⟨_, rfl⟩
        have hgw := goes_way (k := kinOf c.p) (r := RM.start u) HM.out hg.out rfl (by omega)
        have htb := lastsP_bd HM.out hg.out.legal
        rw [hT] at hgw htb
        have hwd : WfP m.dst := by
          have h1 := HOK.out.hear (k := kinOf c.p) (i := 0) (t := ⟨1, 0, 0, 0 + 1, m, poseO, 0⟩) hkin.out (by omega)
          rw [hgw] at h1
          exact (h1.going ⟨m, 0 - 0, T - (0 - 0), false⟩ rfl).2.2.2.2.2.2
        have HWD := Lib.hid hwd
        have hn16 := legalP_n hg.out.legal
        have kH := Lib.hid (fun (W : World) (S : Nat → Prop) (h : Know W W S [rROB c.p 0 p (RM.start u)] [stepsR]) => rb_hear HOK.out (by omega) (by show m.n ≤ _; omega) hgw h)
        have HF := Lib.hid (show m.fin = m.at_ + T by rw [hg.out.fin, hT])
        have ha0 := hg.out.at_.1
        have ha1 := hg.out.at_.2
        have hf1 : m.at_ ≤ m.fin := by rw [HF.out]; omega
        have hf2 : m.fin ≤ 17000 := by rw [HF.out]; omega
        have kOK := Lib.hid (fun (D k : Int) (hD : 0 ≤ D ∧ D ≤ 900000) (hk : 0 ≤ k ∧ k < T + D) => way_ok (e := 0) (num := 0) HWU.out hwd hg.out (by omega) (by omega) htb hD hk)
        have kDel := Lib.hid (fun (W : World) (S : Nat → Prop) (D d : Int) (hD : 0 ≤ D ∧ D ≤ 900000) (hd : d ≤ 1000) (h : (rROB c.p 0 p (wayR u m 0 0 T D 0)).p W S) =>
          (show Calls Tryz.prog 12 #[.pointer (some ⟨p, 0, none⟩), .int .i64 d] W fun e w' => e = .returned (.tuple #[]) ∧ Turn (rROB c.p 0 p (wayR u m 0 0 T (D + max 0 d) 0)) W w' S from by
            have := rb_delay (d := d) (kOK.out D 0 hD (by omega)) h
            rwa [way_hold hD.1 hD.2 hd] at this))
        have kTick := Lib.hid (fun (W : World) (S : Nat → Prop) (D k : Int) (hD : 0 ≤ D ∧ D ≤ 900000) (hk : 0 ≤ k ∧ k + 1 < T + D) (h : (rROB c.p 0 p (wayR u m 0 0 T D k)).p W S) => rb_tick (kOK.out D k hD (by omega)) (by omega) (way_tick hk.1 hk.2) h)
        have kDone := Lib.hid (fun (W : World) (S : Nat → Prop) (D k : Int) (hD : 0 ≤ D ∧ D ≤ 900000) (hk : 0 ≤ k ∧ k + 1 = T + D) (h : (rROB c.p 0 p (wayR u m 0 0 T D k)).p W S) => rb_tick (kOK.out D k hD (by omega)) (by omega) (show (wayR u m 0 0 T D k).tick = (⟨m.dst, 0, 0, 1, none, false, 0⟩, m, 1) from way_done hD.1 htb.1 hk.2) h)
        have kPl := Lib.hid (fun (W : World) (x : Int) => show Calls Tryz.prog 16 #[.int .i64 x, .int .i64 30] W (Ret (.int .i64 (x % 30)) W) from
          (Place_calls x 30 W (by omega) (by omega)).mono fun e w' h => ⟨h.1, by rw [h.2]; exact Mod.refl _ _⟩)
        obtain ⟨t0, t1⟩ := htb
        clear hwd hgw hT hn16 HOK
        go_wp2_with (first
          | (go_at_call 15; go_must (refine (Know.hears hK (by repeat (first | exact Ix.head | apply Ix.tail)) (by simp) (fun S hS => kH.out _ S hS)).mono ?_; clear hK; rintro e w' ⟨adt, cpt, rfl, hK⟩; simp only [List.set_cons_zero, List.set_cons_succ] at hK))
          | go_big_skip
          | go_big_skip
          | ((with_reducible refine wl_at (o := ⟨_, .load _ _, _, _, _, _⟩) ?_)
             first
               | refine wl_loadK hK rfl rfl rfl (scalT (by decide)) (h := ?_)
               | refine wl_loadSK hK rfl rfl rfl (aggT (by decide)) (h := ?_)
               | refine wl_loadA0 rfl rfl rfl (scalT (by decide)) (h := ?_)
               | refine wl_loadA rfl rfl rfl (scalT (by decide)) (h := ?_)
               | refine wl_loadSA rfl rfl rfl (aggT (by decide)) (h := ?_))
          | (with_reducible refine atEnd_mk (by kernel_rfl) ?_))
        replace hK := hK.sub (.cons _ (List.Sublist.refl _))
        go_loopg [13, 12, 14] 8 (fun k i v12 _ wr => ∃ (j : Nat) (D : Int), i = .int .i64 j ∧ v12 = .int .i64 (T + D) ∧ k = 8 - j ∧ j ≤ 8 ∧ 0 ≤ D ∧ D ≤ 30 * j ∧ Know w wr none' [rBlk b9 (Tele.cells ⟨1, 0, 0, 1, m, poseO, 0⟩) 43, rROB c.p 0 p (wayR u m 0 0 T D 0)] [rRd elInt (.slice sa l.length sc) l, rConf c, stepsR])
        case atStart => exact ⟨0, 0, rfl, by rw [HF.out]; congr 1; omega, by omega, by omega, by omega, by omega, hK⟩
        case round =>
          clear hK
          obtain ⟨j, D, rfl, rfl, rfl, hj, hD0, hD1, hK⟩ := hrel
          by_cases hlt : j < l.length ∧ j < 8
          · obtain ⟨hlt, hlt2⟩ := hlt
            have hlI : (j : Int) < (l.length : Int) := by omega
            have hlI8 : (j : Int) < 8 := by omega
            obtain ⟨x, hx⟩ : ∃ x, l[j]? = some x := ⟨_, List.getElem?_eq_getElem hlt⟩
            have HX := Lib.hid hx
            have hy0 : 0 ≤ x % 30 := Int.emod_nonneg x (by omega)
            have hy1 : x % 30 < 30 := Int.emod_lt_of_pos x (by omega)
            have kPx := Lib.hid (fun (W : World) => kPl.out W x)
            obtain ⟨y, hy⟩ : ∃ y, x % 30 = y := ⟨_, rfl⟩
            rw [hy] at kPx hy0 hy1
            clear hx hy
            have kDx := Lib.hid (fun (W : World) (S : Nat → Prop) (h : (rROB c.p 0 p (wayR u m 0 0 T D 0)).p W S) => kDel.out W S D (y - 4) (by omega) (by omega) h)
            obtain ⟨G, hG⟩ : ∃ G, max 0 (y - 4) = G := ⟨_, rfl⟩
            have hG0 : 0 ≤ G := by omega
            have hG1 : G ≤ 30 := by omega
            have HG := Lib.hid hG
            rw [hG] at kDx
            clear hG
            go_wp2_with (first
              | ((with_reducible refine wl_at (o := ⟨some 77, _, _, _, _, _⟩) ?_)
                 go_must (refine wl_ixK hK rfl rfl rfl rfl intTy.und intTy.size (h := ?_); intro b77 k77 hat77))
              | (go_at_call 16; go_must (refine (hK.quiet (kPx.out _)).mono ?_; clear hK; rintro e w' ⟨rfl, hK⟩))
              | (go_at_call 12; go_must (refine (hK.callsI (fun S hS => kDx.out _ _ hS)).mono ?_; clear hK; rintro e w' ⟨rfl, hK⟩; simp only [List.set_cons_zero, List.set_cons_succ] at hK))
              | ((with_reducible refine wl_at (o := ⟨some 86, _, _, _, _, _⟩) ?_); go_must (refine wl_max2 rfl rfl rfl rfl ?_; rw [HG.out]))
              | go_big_skip
              | go_big_skip
              | ((with_reducible refine wl_at (o := ⟨_, .load _ _, _, _, _, _⟩) ?_)
                 first
                   | refine wl_loadK hK rfl rfl rfl (scalT (by decide)) (h := ?_)
                   | refine wl_loadSK hK rfl rfl rfl (aggT (by decide)) (h := ?_)
                   | refine wl_loadA0 rfl rfl rfl (scalT (by decide)) (h := ?_)
                   | refine wl_loadA rfl rfl rfl (scalT (by decide)) (h := ?_)
                   | refine wl_loadSA rfl rfl rfl (aggT (by decide)) (h := ?_))
              | (with_reducible refine atEnd_mk (by kernel_rfl) ?_))
            go_roundg (8 - (j + 1))
            case measure => omega
            case rel => exact ⟨j + 1, D + G, by go_num, by congr 1; omega, rfl, by omega, by omega, by omega, hK⟩
          · have hend : (decide ((j : Int) < (l.length : Int)) && decide ((j : Int) < 8)) = false := by
              rw [Bool.and_eq_false_iff, decide_eq_false_iff_not, decide_eq_false_iff_not]; omega
            have hout : ¬ ((j : Int) < (l.length : Int)) ∨ ((j : Int) < (l.length : Int)) ∧ ¬ ((j : Int) < 8) := by omega
            have hT9 : T + D ≤ 17000 := by omega
            rcases hout with hout | ⟨hout, hout2⟩
            all_goals
              go_wp2_with (first
                | go_big_skip
                | go_big_skip
                | ((with_reducible refine wl_at (o := ⟨_, .load _ _, _, _, _, _⟩) ?_)
                   first
                     | refine wl_loadK hK rfl rfl rfl (scalT (by decide)) (h := ?_)
                     | refine wl_loadSK hK rfl rfl rfl (aggT (by decide)) (h := ?_)
                     | refine wl_loadA0 rfl rfl rfl (scalT (by decide)) (h := ?_)
                     | refine wl_loadA rfl rfl rfl (scalT (by decide)) (h := ?_)
                     | refine wl_loadSA rfl rfl rfl (aggT (by decide)) (h := ?_))
                | (with_reducible refine atEnd_mk (by kernel_rfl) ?_))
              go_loopg [15, 16, 17] ((T + D).toNat - 1) (fun k i _ _ wr => ∃ (q : Nat), i = .int .i64 ((q : Int) + 1) ∧ k = (T + D).toNat - (q + 1) ∧ (q : Int) + 1 ≤ T + D ∧ Know w wr none' [rBlk b9 (Tele.cells ⟨1, 0, 0, 1, m, poseO, 0⟩) 43, rROB c.p 0 p (wayR u m 0 0 T D q)] [rRd elInt (.slice sa l.length sc) l, rConf c, stepsR])
              case atStart => exact ⟨0, rfl, by omega, by omega, hK⟩
              case round =>
                clear hK
                obtain ⟨q, rfl, rfl, hq, hK⟩ := hrel
                by_cases hql : (q : Int) + 1 < T + D
                · have kTq := Lib.hid (fun (W : World) (S : Nat → Prop) (h : (rROB c.p 0 p (wayR u m 0 0 T D q)).p W S) => kTick.out W S D q (by omega) (by omega) h)
                  go_wp2_with (first
                    | (go_at_call 17; go_must (refine (hK.callsI (fun S hS => kTq.out _ _ hS)).mono ?_; clear hK; rintro e w' ⟨rfl, hK⟩; simp only [List.set_cons_zero, List.set_cons_succ] at hK))
                    | ((with_reducible refine wl_at (o := ⟨some 16, .alloc _, _, _, _, _⟩) ?_)
                       go_must (refine wl_allocK (z := .agg (moveZ).toArray) (zs := moveZ) hK rfl rfl (by kernel_rfl) rfl ?_; clear hK; intro w16 b16 hK))
                    | ((with_reducible refine wl_at (o := ⟨none, .store 41 _ _, _, _, _, _⟩) ?_)
                       go_must (refine wl_storeWK (vs := Go.Sk.Move.cells mvZ) hK rfl rfl rfl rfl (aggS (by decide)) (move_one _) (h := ?_); clear hK; intro w' hK; simp only [List.set_cons_zero, List.set_cons_succ] at hK))
                    | go_big_skip
                    | go_big_skip
                    | ((with_reducible refine wl_at (o := ⟨_, .load _ _, _, _, _, _⟩) ?_)
                       first
                         | refine wl_loadK hK rfl rfl rfl (scalT (by decide)) (h := ?_)
                         | refine wl_loadSK hK rfl rfl rfl (aggT (by decide)) (h := ?_)
                         | refine wl_loadA0 rfl rfl rfl (scalT (by decide)) (h := ?_)
                         | refine wl_loadA rfl rfl rfl (scalT (by decide)) (h := ?_)
                         | refine wl_loadSA rfl rfl rfl (aggT (by decide)) (h := ?_))
                    | (with_reducible refine atEnd_mk (by kernel_rfl) ?_))
                  go_roundg ((T + D).toNat - (q + 1 + 1))
                  case measure => omega
                  case rel => exact ⟨q + 1, by go_num, rfl, by omega, hK.sub (.cons _ (List.Sublist.refl _))⟩
                · have hqe : (q : Int) + 1 = T + D := by omega
                  have kTq := Lib.hid (fun (W : World) (S : Nat → Prop) (h : (rROB c.p 0 p (wayR u m 0 0 T D q)).p W S) => kDone.out W S D q (by omega) ⟨by omega, hqe⟩ h)
                  have HTL := Lib.hid (show RM.tell 0 ⟨m.dst, 0, 0, 1, none, false, 0⟩ = (⟨3, 0, 0, 1, mvZ, poseO, 0⟩ : Tele) from by simp [RM.tell])
                  have HT0 := Lib.hid (show [(⟨3, 0, 0, 1, mvZ, poseO, 0⟩ : Tele)][0]? = some ⟨3, 0, 0, 1, mvZ, poseO, 0⟩ from rfl)
                  clear hqe
                  go_wp2_with (first
                    | (go_at_call 17; go_must (refine (hK.callsI (fun S hS => kTq.out _ _ hS)).mono ?_; clear hK; rintro e w' ⟨rfl, hK⟩; simp only [List.set_cons_zero, List.set_cons_succ] at hK))
                    | ((with_reducible refine wl_at (o := ⟨some 18, .alloc _, _, _, _, _⟩) ?_)
                       go_must (refine wl_allocK (z := .agg (moveZ).toArray) (zs := moveZ) hK rfl rfl (by kernel_rfl) rfl ?_; clear hK; intro w18 b18 hK))
                    | ((with_reducible refine wl_at (o := ⟨none, .store 41 _ _, _, _, _, _⟩) ?_)
                       go_must (refine wl_storeWK (vs := Go.Sk.Move.cells m) hK rfl rfl rfl rfl (aggS (by decide)) (move_one _) (h := ?_); clear hK; intro w' hK; simp only [List.set_cons_zero, List.set_cons_succ] at hK))
                    | (go_at_call 18; go_must (refine (rb_tell hK.own).mono ?_; rintro e w' ⟨adt, rfl, hT⟩; replace hK := hK.push1 hT; clear hT; rw [HTL.out] at hK))
                    | ((with_reducible refine wl_at (o := ⟨some 122, _, _, _, _, _⟩) ?_); go_must (refine wl_ixK (i := 0) (u := (⟨3, 0, 0, 1, mvZ, poseO, 0⟩ : Tele)) hK rfl rfl rfl rfl teleTy18.und teleTy18.size (hu := HT0) (h := ?_); intro b122 k122 hat122))
                    | ((with_reducible refine wl_at (o := ⟨some 124, _, _, _, _, _⟩) ?_); go_must (refine wl_pure (v := .agg (Tele.cells ⟨3, 0, 0, 1, mvZ, poseO, 0⟩).toArray) rfl (fun W => by kernel_rfl) ?_))
                    | ((with_reducible refine wl_at (o := ⟨some 125, _, _, _, _, _⟩) ?_); go_must (refine wl_eqlS (xs := Tele.cells ⟨3, 0, 0, 1, mvZ, poseO, 0⟩) (ys := Tele.cells ⟨3, 0, 0, 1, mvZ, poseO, 0⟩) rfl rfl rfl rfl teleEq18 (Tele.ks _) (Tele.ks _) ?_; rw [Tele.eq, decide_eq_true rfl]))
                    | ((with_reducible refine wl_at (o := ⟨some 109, .load _ _, _, _, _, _⟩) ?_); go_must (refine wl_loadPK (Go.Sk.Move.cells m) hK rfl rfl rfl (aggT (by decide)) (h := ?_)))
                    | ((with_reducible refine wl_at (o := ⟨some 110, _, _, _, _, _⟩) ?_); go_must (refine wl_eqlMs m moveEq rfl rfl rfl rfl ?_))
                    | (go_at_call 9; go_must (refine (hK.quiet (awake_calls hK.lent)).mono ?_; clear hK; rintro e w' ⟨rfl, hK⟩))
                    | go_big_skip
                    | go_big_skip
                    | ((with_reducible refine wl_at (o := ⟨_, .load _ _, _, _, _, _⟩) ?_)
                       first
                         | refine wl_loadK hK rfl rfl rfl (scalT (by decide)) (h := ?_)
                         | refine wl_loadSK hK rfl rfl rfl (aggT (by decide)) (h := ?_)
                         | refine wl_loadA0 rfl rfl rfl (scalT (by decide)) (h := ?_)
                         | refine wl_loadA rfl rfl rfl (scalT (by decide)) (h := ?_)
                         | refine wl_loadSA rfl rfl rfl (aggT (by decide)) (h := ?_))
                    | (with_reducible refine atEnd_mk (by kernel_rfl) ?_))
                  go_ret
                  exact ⟨rfl, hK.mod⟩
end Go.Proofs.YtcjpnlplibaffaaGreatDoor
