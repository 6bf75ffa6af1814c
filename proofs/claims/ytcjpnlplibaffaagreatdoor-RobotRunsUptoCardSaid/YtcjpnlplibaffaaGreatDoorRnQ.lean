/- RobotRuns. -/
import Derived.Test.YtcjpnlplibaffaaGreatDoorRr4Q
import Derived.Test.YtcjpnlplibaffaaGreatDoorSkElemQ
set_option linter.all false
namespace Go.Proofs.YtcjpnlplibaffaaGreatDoor
open Go Go.Sk Go.RowKit
set_option maxRecDepth 100000

theorem Has.rfEpoch {c : ConfV} {q : Nat} {r : RM} {w : World} (h : Has w (rRF c q r)) : At w q 21 [.int .i64 r.epoch] := by
  obtain ⟨x, h⟩ := Has.rf h
  exact part_at h.blk (by unfold R18.of; cases r.under <;> rfl)
theorem Has.rfUnder {c : ConfV} {q : Nat} {r : RM} {w : World} (h : Has w (rRF c q r)) : At w q 23 [.bool r.under.isSome] := by
  obtain ⟨x, h⟩ := Has.rf h
  exact part_at h.blk (by unfold R18.of; cases r.under <;> rfl)
theorem Know.do2 {c : ConfV} {p q : Nat} {r r' : RM} {f : FuncId} {args : Array Value} {w0 w : World} {F : Nat → Prop} {X : Res} {M L : List Res} (h : Know w0 w F (X :: rROB c.p 0 p r :: rRF c q r :: M) L) (h1 : rConf c ∈ L) (h2 : stepsR ∈ L)
    (hc : ∀ S, Know w w S [rROB c.p 0 p r, rRF c q r] [rConf c, stepsR] → Calls Tryz.prog f args w (doPost c p q r' w S)) : Calls Tryz.prog f args w fun e w' => e = .returned (.bool true) ∧ Know w0 w' F (X :: rROB c.p 0 p r' :: rRF c q r' :: M) L := by
  have h3 : Know w0 w F ([rROB c.p 0 p r, rRF c q r] ++ (X :: M)) L := h.perm (show (X :: ([rROB c.p 0 p r, rRF c q r] ++ M)).Perm ([rROB c.p 0 p r, rRF c q r] ++ (X :: M)) from List.perm_middle.symm)
  obtain ⟨S1, hKS, back⟩ := Know.focus h3
  refine (hc S1 (hKS.subL (by
    intro x hx
    simp only [List.mem_cons, List.not_mem_nil, or_false] at hx
    rcases hx with rfl | rfl
    · exact h1
    · exact h2))).mono ?_
  rintro e w' ⟨rfl, hT⟩
  exact ⟨rfl, (back _ _ hT).perm (show ([rROB c.p 0 p r', rRF c q r'] ++ (X :: M)).Perm (X :: ([rROB c.p 0 p r', rRF c q r'] ++ M)) from List.perm_middle)⟩
theorem run_hear {c : ConfV} {p q : Nat} {r : RM} {n : Int} {t : Tele} (hR : RunOk c.p r n) (hn0 : 0 ≤ n) (hn : n ≤ 100000) (hz : Sized c) (hm : MayP c.p) (hk : (kinOf c.p).Ok) (hlt : t.kind = 1 → t.move.at_ < t.move.fin) (hmn : t.move.n ≤ 9223372036854775807) (he : t.kind = 2 → t.epoch ≤ n + 1) :
    ∃ r', RunOk c.p r' (n + 1) ∧ ∀ W S, Know W W S [rROB c.p 0 p r, rRF c q r] [rConf c, stepsR] → Calls Tryz.prog 26 #[.pointer (some ⟨p, 0, none⟩), .pointer (some ⟨q, 0, none⟩), .agg (Op18.cells ⟨0, 0, t⟩).toArray] W (doPost c p q r' W S) :=
  ⟨(r.hear c.p (kinOf c.p) 0 t).1, RunOk.hear hk (nums_iff.1 hm.nums) hR hn0 he, fun _ _ h => do_hear hR.ok (by omega) hz hk hmn hlt rfl h⟩
theorem run_ticks {c : ConfV} {p q : Nat} {r : RM} {n x : Int} (hR : RunOk c.p r n) (hn0 : 0 ≤ n) (hn : n ≤ 100000) :
    ∃ r', RunOk c.p r' (n + 9) ∧ ∀ W S, Know W W S [rROB c.p 0 p r, rRF c q r] [rConf c, stepsR] → Calls Tryz.prog 26 #[.pointer (some ⟨p, 0, none⟩), .pointer (some ⟨q, 0, none⟩), .agg (Op18.cells ⟨3, x, ⟨0, 0, 0, 0, mvZ, poseO, 0⟩⟩).toArray] W (doPost c p q r' W S) := by
  have hx0 : 0 ≤ x % 9 := Int.emod_nonneg x (by omega)
  have hx1 : x % 9 < 9 := Int.emod_lt_of_pos x (by omega)
  exact ⟨tickN (1 + x % 9).toNat r, (hR.tickN _).more (by omega), fun _ _ h => do_ticks (m := (1 + x % 9).toNat) hR (by omega) (by omega) h⟩
theorem run_ticks1 {c : ConfV} {p q : Nat} {r : RM} {n : Int} (hR : RunOk c.p r n) (hn0 : 0 ≤ n) (hn : n ≤ 100000) :
    ∃ r', RunOk c.p r' (n + 1) ∧ ∀ W S, Know W W S [rROB c.p 0 p r, rRF c q r] [rConf c, stepsR] → Calls Tryz.prog 26 #[.pointer (some ⟨p, 0, none⟩), .pointer (some ⟨q, 0, none⟩), .agg (Op18.cells ⟨3, 0, ⟨0, 0, 0, 0, mvZ, poseO, 0⟩⟩).toArray] W (doPost c p q r' W S) :=
  ⟨tickN 1 r, (hR.tickN 1), fun _ _ h => do_ticks (m := 1) hR (by omega) (by decide) h⟩
theorem run_delay {c : ConfV} {p q : Nat} {r : RM} {n x : Int} (hR : RunOk c.p r n) :
    ∃ r', RunOk c.p r' n ∧ ∀ W S, Know W W S [rROB c.p 0 p r, rRF c q r] [rConf c, stepsR] → Calls Tryz.prog 26 #[.pointer (some ⟨p, 0, none⟩), .pointer (some ⟨q, 0, none⟩), .agg (Op18.cells ⟨6, x, ⟨0, 0, 0, 0, mvZ, poseO, 0⟩⟩).toArray] W (doPost c p q r' W S) :=
  ⟨r.hold (x % 40 - 5), hR.hold, fun _ _ h => do_delay hR.ok rfl h⟩
theorem run_gos {c : ConfV} {q : Nat} {r : RM} {x late : Int} {W : World} (hm : MayP c.p) (hc : Has W (rConf c)) (hb : Has W (rRF c q r)) (hz : Sized c) (hp : PoseWf r.pose) (hfit : fitsB c.p r.pose = true) (hnum : 0 ≤ r.num ∧ r.num ≤ 1000000000) :
    Calls Tryz.prog 13 #[.agg c.cells.toArray, .pointer (some ⟨q, 0, none⟩), .int .i64 x, .int .i64 late] W fun e w' => ∃ m, e = .returned (.agg (Tele.cells ⟨1, 0, r.epoch, r.num + 1, m, poseO, 0⟩).toArray) ∧ Hid (GosOk c.p r.pose m) ∧ Mod none' W w' := by
  obtain ⟨y, hb⟩ := Has.rf hb
  have h1 : (R18.of r y).i = 0 ∧ (R18.of r y).pose = r.pose ∧ (R18.of r y).epoch = r.epoch ∧ (R18.of r y).num = r.num := by
    unfold R18.of
    cases r.under <;> exact ⟨rfl, rfl, rfl, rfl⟩
  obtain ⟨e1, e2, e3, e4⟩ := h1
  have := gos_calls (r := R18.of r y) (p := q) (n := x) (late := late) hm hc hb hz (by rw [e2]; exact hp) (by rw [e2]; exact hfit) (by rw [e4]; exact hnum)
  rw [e1, e2, e3, e4] at this
  exact this

open Classical in
set_option maxHeartbeats 8000000 in
theorem runs_calls {c : ConfV} {sv1 sv2 : Value} {l1 l2 : List Int} {w : World} (hc : Has w (rConf c)) (hst : Has w stepsR) (hu : Upto c) (hwf : ∀ p ∈ c.robots.l, PoseWf p) (hs1 : Rd w elInt sv1 l1) (hb1 : l1.length ≤ 1048576) (hs2 : Rd w elInt sv2 l2) (hb2 : l2.length ≤ 1048576) :
    Calls Tryz.prog 7 #[.agg c.cells.toArray, sv1, sv2] w (Ret (.bool true) w) := by
  have hK : Know w w none' [] [rRd elInt sv1 l1, rRd elInt sv2 l2, rConf c, stepsR] := Know.start (L := [rRd elInt sv1 l1, rRd elInt sv2 l2, rConf c, stepsR]) w (by
    intro r hr
    simp only [List.mem_cons, List.not_mem_nil, or_false] at hr
    rcases hr with rfl | rfl | rfl | rfl
    · exact hs1.has
    · exact hs2.has
    · exact hc
    · exact hst)
  obtain ⟨sa1, sc1, rfl⟩ := hs1.vee
  obtain ⟨sa2, sc2, rfl⟩ := hs2.vee
  clear hc hst hs1 hs2
  obtain ⟨sm, hsm⟩ : ∃ sm, decide (smallB c.p) = sm := ⟨_, rfl⟩
  have HS := Lib.hid hsm
  cases sm with
  | false =>
    clear hsm
    go_enter Tryz.func7, Tryz.ntmps7
    go_wp2_with (first
      | ((with_reducible refine wl_at (o := ⟨some 3, .box _ _, _, _, _, _⟩) ?_)
         go_must (refine wl_boxK hK rfl rfl rfl rfl ?_; clear hK; intro w3 b3 hK))
      | (go_at_call 8; go_must (refine (hK.quiet (kn_small HS.out hu hK.lent)).mono ?_; clear hK; rintro e w' ⟨rfl, hK⟩))
      | (go_at_call 9; go_must (refine (hK.quiet (awake_calls hK.lent)).mono ?_; clear hK; rintro e w' ⟨rfl, hK⟩))
      | go_big_skip
      | ((with_reducible refine wl_at (o := ⟨_, .load _ _, _, _, _, _⟩) ?_)
         first
           | refine wl_loadK hK rfl rfl rfl (scalT (by decide)) (h := ?_)
           | refine wl_loadSK hK rfl rfl rfl (aggT (by decide)) (h := ?_)
           | refine wl_loadA0 rfl rfl rfl (scalT (by decide)) (h := ?_)
           | refine wl_loadA rfl rfl rfl (scalT (by decide)) (h := ?_)
           | refine wl_loadSA rfl rfl rfl (aggT (by decide)) (h := ?_))
      | (with_reducible refine atEnd_mk (by kernel_rfl) ?_))
    go_ret
    exact ⟨rfl, hK.mod⟩
  | true =>
    have hm : MayP c.p := (of_decide_eq_true hsm).2.2.2.2.2.2.2
    clear hsm
    by_cases hrl : c.robots.l.length = 0
    · have d0 : ((c.robots.l.length : Int) == 0) = true := by rw [hrl]; rfl
      have d0' : decide ((c.robots.l.length : Int) = 0) = true := by rw [hrl]; rfl
      have HRL := Lib.hid hrl
      clear hrl
      go_enter Tryz.func7, Tryz.ntmps7
      go_wp2_with (first
        | ((with_reducible refine wl_at (o := ⟨some 3, .box _ _, _, _, _, _⟩) ?_)
           go_must (refine wl_boxK hK rfl rfl rfl rfl ?_; clear hK; intro w3 b3 hK))
        | (go_at_call 8; go_must (refine (hK.quiet (kn_small HS.out hu hK.lent)).mono ?_; clear hK; rintro e w' ⟨rfl, hK⟩))
        | (go_at_call 9; go_must (refine (hK.quiet (awake_calls hK.lent)).mono ?_; clear hK; rintro e w' ⟨rfl, hK⟩))
        | go_big_skip
        | ((with_reducible refine wl_at (o := ⟨_, .load _ _, _, _, _, _⟩) ?_)
           first
             | refine wl_loadK hK rfl rfl rfl (scalT (by decide)) (h := ?_)
             | refine wl_loadSK hK rfl rfl rfl (aggT (by decide)) (h := ?_)
             | refine wl_loadA0 rfl rfl rfl (scalT (by decide)) (h := ?_)
             | refine wl_loadA rfl rfl rfl (scalT (by decide)) (h := ?_)
             | refine wl_loadSA rfl rfl rfl (aggT (by decide)) (h := ?_))
        | (with_reducible refine atEnd_mk (by kernel_rfl) ?_))
      go_ret
      exact ⟨rfl, hK.mod⟩
    · obtain ⟨u, hu0⟩ : ∃ u, c.robots.l[0]? = some u := ⟨_, List.getElem?_eq_getElem (by omega)⟩
      have hpw := hwf u (List.mem_of_getElem? hu0)
      have HU := Lib.hid hu0
      have HM := Lib.hid hm
      have HW := Lib.hid hwf
      have d0 : ((c.robots.l.length : Int) == 0) = false := beq_eq_false_iff_ne.2 (by omega)
      have d0' : decide ((c.robots.l.length : Int) = 0) = false := decide_eq_false (by omega)
      have hkin := Lib.hid (kinOf_ok hm)
      have kN := Lib.hid (fun (W : World) (h : Has W (rConf c)) => ref_new h hu0)
      have HR0 := Lib.hid (RunOk.start (c := c.p) (u := u) ⟨hpw.x, hpw.y⟩ (homeFitsR hm hu0))
      have HZ := Lib.hid hu.sized
      clear hm hwf hu0 hrl hpw
      go_enter Tryz.func7, Tryz.ntmps7
      go_wp2_with (first
        | ((with_reducible refine wl_at (o := ⟨some 3, .box _ _, _, _, _, _⟩) ?_)
           go_must (refine wl_boxK hK rfl rfl rfl rfl ?_; clear hK; intro w3 b3 hK))
        | (go_at_call 8; go_must (refine (hK.quiet (kn_small HS.out hu hK.lent)).mono ?_; clear hK; rintro e w' ⟨rfl, hK⟩))
        | (go_at_call 11; go_must (refine (dup_calls (c := c) hK.lent hu).mono ?_; rintro e w' ⟨d, rfl, hd, hT⟩; replace hK := hK.push1 hT; have HD := Lib.hid hd; clear hT hd))
        | (go_at_call 10; go_must (refine (rb_newD HM.out HD.out hu HW.out HU.out hK.own hK.lent).mono ?_; rintro e w' ⟨p, rfl, hT⟩; replace hK := hK.push1 hT; clear hT))
        | (go_at_call 14; go_must (refine (kN.out _ hK.lent).mono ?_; rintro e w' ⟨q, rfl, hT⟩; replace hK := hK.push1 hT; clear hT; replace hK := hK.seen (r' := rRF c q (RM.start u)) (fun _ _ hh => rRF_p.2 ⟨⟨0, 0, 0, false⟩, hh⟩) .head; simp only [List.set_cons_zero] at hK))
        | go_big_skip
        | ((with_reducible refine wl_at (o := ⟨_, .load _ _, _, _, _, _⟩) ?_)
           first
             | refine wl_loadK hK rfl rfl rfl (scalT (by decide)) (h := ?_)
             | refine wl_loadSK hK rfl rfl rfl (aggT (by decide)) (h := ?_)
             | refine wl_loadA0 rfl rfl rfl (scalT (by decide)) (h := ?_)
             | refine wl_loadA rfl rfl rfl (scalT (by decide)) (h := ?_)
             | refine wl_loadSA rfl rfl rfl (aggT (by decide)) (h := ?_))
        | (with_reducible refine atEnd_mk (by kernel_rfl) ?_))
      replace hK := hK.order [1, 0, 2, 3]
      simp only [List.filterMap_cons, List.filterMap_nil, List.getElem?_cons_succ, List.getElem?_cons_zero, List.length_cons, List.length_nil, Nat.reduceAdd, List.drop_succ_cons, List.drop_zero, List.cons_append, List.nil_append] at hK
      replace hK := hK.sub (M' := [rROB c.p 0 p (RM.start u), rRF c q (RM.start u), rBlk b3 c.cells 26]) (.cons_cons _ (.cons_cons _ (.cons _ (.cons_cons _ .slnil))))
      go_loopg [10, 11, 12] 12 (fun k i _ _ wr => ∃ (j : Nat) (r : RM) (n : Int), i = .int .i64 j ∧ k = 12 - j ∧ j ≤ 12 ∧ 0 ≤ n ∧ n ≤ 1000 * j ∧ Hid (RunOk c.p r n) ∧ Know w wr none' [rROB c.p 0 p r, rRF c q r, rBlk b3 c.cells 26] [rRd elInt (.slice sa1 l1.length sc1) l1, rRd elInt (.slice sa2 l2.length sc2) l2, rConf c, stepsR])
      case atStart => exact ⟨0, RM.start u, 0, rfl, rfl, by omega, by omega, by omega, HR0.out, hK⟩
      case round =>
        clear hK
        obtain ⟨j, r, n, rfl, rfl, hj, hn0, hn1, hR, hK⟩ := hrel
        by_cases hlt : j < l1.length ∧ j < 12
        · obtain ⟨hlt, hlt2⟩ := hlt
          have hltI : (j : Int) < (l1.length : Int) := by omega
          have hltI2 : (j : Int) < 12 := by omega
          obtain ⟨x, hx⟩ : ∃ x, l1[j]? = some x := ⟨_, List.getElem?_eq_getElem hlt⟩
          have HX := Lib.hid hx
          have hno := hR.out.ok.num
          have kG := Lib.hid (fun (W : World) (h1 : Has W (rConf c)) (h2 : Has W (rRF c q r)) => run_gos (r := r) (x := x) (late := (j : Int)) HM.out h1 h2 HZ.out (wfp hR.out.ok.pose) hR.out.fit (by omega))
          clear hx
          go_wp2_with (first
            | go_big_skip
            | (with_reducible refine atEnd_mk (by kernel_rfl) ?_))
          refine wp_region_floatK (id := 10) hK 8 [0, 5] [rBlk b3 c.cells 26, rRd elInt (.slice sa1 l1.length sc1) l1] [0, 1, 2, 3, 4, 5, 6, 7, 8, 9] [7, 8, 9] (fun a a' w' => ∃ (b11 : Nat) (bk : Value) (m : Go.Sk.Move), a' = (((((((((a.put (some 47) (.agg c.cells.toArray)).put (some 48) (.pointer (some ⟨q, 0, none⟩))).put (some 49) (.slice sa1 l1.length sc1)).put (some 50) (.int .i64 j)).put (some 51) bk).put (some 52) (.int .i64 x)).put (some 53) (.int .i64 j)).put (some 54) (.agg (Tele.cells ⟨1, 0, r.epoch, r.num + 1, m, poseO, 0⟩).toArray)).put (some 11) (.pointer (some ⟨b11, 0, none⟩))).put none undef ∧ Hid (GosOk c.p r.pose m) ∧ Know w w' none' [rBlk b11 (Tele.cells ⟨1, 0, r.epoch, r.num + 1, m, poseO, 0⟩) 43, rROB c.p 0 p r, rRF c q r, rBlk b3 c.cells 26] [rRd elInt (.slice sa1 l1.length sc1) l1, rRd elInt (.slice sa2 l2.length sc2) l2, rConf c, stepsR]) (by kernel_rfl) (by kernel_rfl) (by kernel_rfl) (by kernel_rfl) (by simp) (fun w' hK2 => ?_) (fun a' w' hI => ?_)
          · clear hK
            have hK := hK2
            clear hK2
            go_wp2_with (first
              | ((with_reducible refine wl_at (o := ⟨some 51, _, _, _, _, _⟩) ?_); go_must (refine wl_ixE (i := j) (u := x) hK rfl rfl rfl rfl intTy.und intTy.size (xs := l1) (hu := HX) (h := ?_); intro b51 k51 hat51 hel51))
              | (with_reducible refine wpGB_loud 7 [8, 7, 9] (by decide) (by decide) (by decide) ?_ ?_)
              | (with_reducible refine wpGB_here (i := 8) (by decide) ?_)
              | (with_reducible refine wpGB_soft (by decide) (by decide) ?_)
              | ((with_reducible refine stepU_at 0 ?_); go_must (refine stepU_loadSK (op_of rfl) (by decide) rfl rfl rfl (aggT (by decide)) (h := ?_); intro w' hM; replace hK := hK.same hM; clear hM))
              | ((with_reducible refine stepU_at 5 ?_); go_must (refine stepU_loadE (op_of rfl) (by decide) rfl rfl rfl (scalT (by decide)) hel51 (by simp) rfl (h := ?_); intro w' hM; replace hK := hK.same hM; clear hM))
              | (with_reducible refine wpGI_of ?_)
              | ((with_reducible refine stepU_at _ ?_); go_must (refine stepU_of (op_of rfl) (by decide) ?_; intro w' hM; replace hK := hK.same hM; clear hM))
              | (with_reducible refine atEndC (hK.clsG (by simp)) ?_)
              | ((with_reducible refine wpGI_nil ?_); intro w' hM; replace hK := hK.same hM; clear hM; refine ⟨by kernel_rfl, ?_⟩; exact ⟨b11, .pointer (some ⟨b51, k51, none⟩), m, by kernel_rfl, hg, hK⟩)
              | (go_at_call 13; go_must (refine (kG.out _ hK.lent hK.own).mono ?_; rintro e w' ⟨m, rfl, hg, hM⟩; replace hK := hK.same hM; clear hM))
              | ((with_reducible refine wl_at (o := ⟨some 11, .alloc _, _, _, _, _⟩) ?_)
                 go_must (refine wl_allocK (z := .agg (Tele.cells ⟨0, 0, 0, 0, mvZ, poseO, 0⟩).toArray) (zs := Tele.cells ⟨0, 0, 0, 0, mvZ, poseO, 0⟩) hK rfl rfl (by kernel_rfl) rfl ?_; clear hK; intro w11 b11 hK))
              | ((with_reducible refine wl_at (o := ⟨none, .store 43 _ _, _, _, _, _⟩) ?_)
                 go_must (refine wl_storeWK (vs := Tele.cells ⟨1, 0, r.epoch, r.num + 1, m, poseO, 0⟩) hK rfl rfl rfl rfl (aggS (by decide)) (elTele.one _) (h := ?_); clear hK; intro w' hK; simp only [List.set_cons_zero, List.set_cons_succ] at hK))
              | go_big_skip
              | go_big_skip
              | ((with_reducible refine wl_at (o := ⟨_, .load _ _, _, _, _, _⟩) ?_)
                 first
                   | refine wl_loadK hK rfl rfl rfl (scalT (by decide)) (h := ?_)
                   | refine wl_loadSK hK rfl rfl rfl (aggT (by decide)) (h := ?_)
                   | refine wl_loadA0 rfl rfl rfl (scalT (by decide)) (h := ?_)
                   | refine wl_loadA rfl rfl rfl (scalT (by decide)) (h := ?_)
                   | refine wl_loadSA rfl rfl rfl (aggT (by decide)) (h := ?_))
              | (with_reducible refine atEnd_mk (by kernel_rfl) ?_))
          · clear hK
            obtain ⟨b11, bk, m, rfl, hg, hK⟩ := hI
            have hmn := legalP_n hg.out.legal
            have htb := lastsP_bd HM.out hg.out.legal
            have hfin := hg.out.fin
            obtain ⟨r1, hR1, k1⟩ := run_hear (p := p) (q := q) (t := ⟨1, 0, r.epoch, r.num + 1, m, poseO, 0⟩) hR.out (by omega) (by omega) HZ.out HM.out hkin.out (fun _ => by show m.at_ < m.fin; omega) (by show m.n ≤ _; omega) (fun h => by cases h)
            obtain ⟨r2, hR2, k2⟩ := run_hear (p := p) (q := q) (t := ⟨1, 0, r.epoch, r.num + 1, m, poseO, 0⟩) hR1 (by omega) (by omega) HZ.out HM.out hkin.out (fun _ => by show m.at_ < m.fin; omega) (by show m.n ≤ _; omega) (fun h => by cases h)
            replace hR2 : RunOk c.p r2 (n + 2) := by rw [show n + 2 = n + 1 + 1 by omega]; exact hR2
            replace k1 := Lib.hid k1
            replace k2 := Lib.hid k2
            clear hR1 hmn htb hfin kG hg hno
            by_cases hl2 : j < l2.length
            · have hl2I : (j : Int) < (l2.length : Int) := by omega
              obtain ⟨y, hy⟩ : ∃ y, l2[j]? = some y := ⟨_, List.getElem?_eq_getElem hl2⟩
              have HY := Lib.hid hy
              clear hy
              by_cases y3 : y.tmod 3 = 0
              · have d3 : (y.tmod 3 == 0) = true := beq_iff_eq.2 y3
                have d3' : decide (y.tmod 3 = 0) = true := decide_eq_true y3
                clear y3
                by_cases y5 : y.tmod 5 = 0
                · have d5 : (y.tmod 5 == 0) = true := beq_iff_eq.2 y5
                  have d5' : decide (y.tmod 5 = 0) = true := decide_eq_true y5
                  clear y5
                  obtain ⟨Q, hQ⟩ : ∃ Q, IntKind.i64.wrap (y.tdiv 3) = Q := ⟨_, rfl⟩
                  have HQ := Lib.hid hQ
                  clear hQ
                  obtain ⟨r3, hR3, k3⟩ := run_ticks (p := p) (q := q) (x := Q) hR2 (by omega) (by omega)
                  obtain ⟨r4, hR4, k4⟩ := run_hear (p := p) (q := q) (t := ⟨2, 0, r3.epoch + 1, 0, mvZ, poseO, 0⟩) hR3 (by omega) (by omega) HZ.out HM.out hkin.out (fun h => by cases h) (by show (0 : Int) ≤ _; omega) (fun _ => by have := hR3.ep; show r3.epoch + 1 ≤ _; omega)
                  have hep0 := hR3.ok.epoch
                  have hep1 := hR3.ep
                  replace k3 := Lib.hid k3
                  replace k4 := Lib.hid k4
                  have HR4 := Lib.hid hR4
                  clear hR3 hR4
                  obtain ⟨r5, hR5, k5⟩ := run_delay (p := p) (q := q) (x := y) HR4.out
                  replace k5 := Lib.hid k5
                  have HR5 := Lib.hid hR5
                  clear hR5
                  clear hR2
                  go_wp2_with (first
                    | (go_at_call 26; go_must (first
                         | (with_reducible refine (Know.do2 hK (by simp) (by simp) (fun S hS => k1.out _ S hS)).mono ?_; clear hK; rintro e w' ⟨rfl, hK⟩)
                         | (with_reducible refine (Know.do2 hK (by simp) (by simp) (fun S hS => k2.out _ S hS)).mono ?_; clear hK; rintro e w' ⟨rfl, hK⟩)
                         | (with_reducible refine (Know.do2 hK (by simp) (by simp) (fun S hS => k3.out _ S hS)).mono ?_; clear hK; rintro e w' ⟨rfl, hK⟩)
                         | (with_reducible refine (Know.do2 hK (by simp) (by simp) (fun S hS => k4.out _ S hS)).mono ?_; clear hK; rintro e w' ⟨rfl, hK⟩)
                         | (with_reducible refine (Know.do2 hK (by simp) (by simp) (fun S hS => k5.out _ S hS)).mono ?_; clear hK; rintro e w' ⟨rfl, hK⟩)))
                    | ((with_reducible refine wl_at (o := ⟨some 58, _, _, _, _, _⟩) ?_); go_must (refine wl_pure (v := .agg (Op18.cells ⟨0, 0, ⟨1, 0, r.epoch, r.num + 1, m, poseO, 0⟩⟩).toArray) rfl (fun W => by kernel_rfl) ?_))
                    | ((with_reducible refine wl_at (o := ⟨some 65, _, _, _, _, _⟩) ?_); go_must (refine wl_pure (v := .agg (Op18.cells ⟨0, 0, ⟨1, 0, r.epoch, r.num + 1, m, poseO, 0⟩⟩).toArray) rfl (fun W => by kernel_rfl) ?_))
                    | ((with_reducible refine wl_at (o := ⟨some 87, _, _, _, _, _⟩) ?_); go_must (refine wl_pure (v := .int .i64 Q) rfl (fun W => by go_simp; exact HQ.out) ?_))
                    | ((with_reducible refine wl_at (o := ⟨some 88, _, _, _, _, _⟩) ?_); go_must (refine wl_pure (v := .agg (Op18.cells ⟨3, Q, ⟨0, 0, 0, 0, mvZ, poseO, 0⟩⟩).toArray) rfl (fun W => by kernel_rfl) ?_))
                    | ((with_reducible refine wl_at (o := ⟨some 97, .load _ _, _, _, _, _⟩) ?_); refine wl_loadA0 (b := q) (k := 21) (hat := Has.rfEpoch (hK.own (r := rRF c q r3))) rfl rfl rfl (scalT (by decide)) (h := ?_))
                    | ((with_reducible refine wl_at (o := ⟨some 99, _, _, _, _, _⟩) ?_); go_must (refine wl_pure (v := .agg (Tele.cells ⟨2, 0, r3.epoch + 1, 0, mvZ, poseO, 0⟩).toArray) rfl (fun W => by kernel_rfl) ?_))
                    | ((with_reducible refine wl_at (o := ⟨some 100, _, _, _, _, _⟩) ?_); go_must (refine wl_pure (v := .agg (Op18.cells ⟨0, 0, ⟨2, 0, r3.epoch + 1, 0, mvZ, poseO, 0⟩⟩).toArray) rfl (fun W => by kernel_rfl) ?_))
                    | ((with_reducible refine wl_at (o := ⟨some 123, _, _, _, _, _⟩) ?_); go_must (refine wl_pure (v := .agg (Op18.cells ⟨6, y, ⟨0, 0, 0, 0, mvZ, poseO, 0⟩⟩).toArray) rfl (fun W => by kernel_rfl) ?_))
                    | ((with_reducible refine wl_at (o := ⟨some 76, _, _, _, _, _⟩) ?_); go_must (refine wl_ixK (i := j) (u := y) hK rfl rfl rfl rfl intTy.und intTy.size (xs := l2) (hu := HY) (h := ?_); intro b76 k76 hat76))
                    | ((with_reducible refine wl_at (o := ⟨some 85, _, _, _, _, _⟩) ?_); go_must (refine wl_ixK (i := j) (u := y) hK rfl rfl rfl rfl intTy.und intTy.size (xs := l2) (hu := HY) (h := ?_); intro b85 k85 hat85))
                    | ((with_reducible refine wl_at (o := ⟨some 111, _, _, _, _, _⟩) ?_); go_must (refine wl_ixK (i := j) (u := y) hK rfl rfl rfl rfl intTy.und intTy.size (xs := l2) (hu := HY) (h := ?_); intro b111 k111 hat111))
                    | ((with_reducible refine wl_at (o := ⟨some 121, _, _, _, _, _⟩) ?_); go_must (refine wl_ixK (i := j) (u := y) hK rfl rfl rfl rfl intTy.und intTy.size (xs := l2) (hu := HY) (h := ?_); intro b121 k121 hat121))
                    | go_big_skip
                    | ((with_reducible refine wl_at (o := ⟨_, .load _ _, _, _, _, _⟩) ?_)
                       first | refine wl_loadSK hK rfl rfl rfl (aggT (by decide)) (h := ?_) | refine wl_loadA0 rfl rfl rfl (scalT (by decide)) (h := ?_))
                    | (with_reducible refine atEnd_mk (by kernel_rfl) ?_))
                  go_loopg [12] 400 (fun k i wr => ∃ (a : Nat) (R : RM), i = .int .i64 a ∧ k = 400 - a ∧ a ≤ 400 ∧ Hid (RunOk c.p R (n + 12 + a)) ∧ Know w wr none' [rBlk b11 (Tele.cells ⟨1, 0, r.epoch, r.num + 1, m, poseO, 0⟩) 43, rROB c.p 0 p R, rRF c q R, rBlk b3 c.cells 26] [rRd elInt (.slice sa1 l1.length sc1) l1, rRd elInt (.slice sa2 l2.length sc2) l2, rConf c, stepsR])
                  case atStart => exact ⟨0, r5, rfl, rfl, by omega, RunOk.more HR5.out (by omega), hK⟩
                  case round =>
                    clear hK
                    obtain ⟨a, R, rfl, rfl, ha, hRR, hK⟩ := hrel
                    obtain ⟨un, hun⟩ : ∃ un, R.under.isSome = un := ⟨_, rfl⟩
                    have HUN := Lib.hid hun
                    have kUn := Lib.hid (fun (W : World) (h : Has W (rRF c q R)) => (show At W q 23 [.bool un] by rw [← HUN.out]; exact Has.rfUnder h))
                    clear hun
                    by_cases hlt : a < 400
                    · cases un with
                      | true =>
                        obtain ⟨R', hR', kt⟩ := run_ticks1 (p := p) (q := q) hRR.out (by omega) (by omega)
                        replace kt := Lib.hid kt
                        have HR' := Lib.hid hR'
                        clear hR'
                        go_wp2_with (first
                          | ((with_reducible refine wl_at (o := ⟨some 133, .load _ _, _, _, _, _⟩) ?_); refine wl_loadA0 (b := q) (k := 23) (hat := kUn.out _ (hK.own (r := rRF c q R))) rfl rfl rfl (scalT (by decide)) (h := ?_))
                          | ((with_reducible refine wl_at (o := ⟨some 139, _, _, _, _, _⟩) ?_); go_must (refine wl_pure (v := .agg (Op18.cells ⟨3, 0, ⟨0, 0, 0, 0, mvZ, poseO, 0⟩⟩).toArray) rfl (fun W => by kernel_rfl) ?_))
                          | (go_at_call 26; go_must (first
                       | (with_reducible refine (Know.do2 hK (by simp) (by simp) (fun S hS => kt.out _ S hS)).mono ?_; clear hK; rintro e w' ⟨rfl, hK⟩)))
                          | go_big_skip
                          | (with_reducible refine atEnd_mk (by kernel_rfl) ?_))
                        go_roundg (400 - (a + 1))
                        case measure => omega
                        case rel => exact ⟨a + 1, R', by go_num, rfl, by omega, RunOk.more HR'.out (by omega), hK⟩
                      | false =>
                        go_wp2_with (first
                          | ((with_reducible refine wl_at (o := ⟨some 133, .load _ _, _, _, _, _⟩) ?_); refine wl_loadA0 (b := q) (k := 23) (hat := kUn.out _ (hK.own (r := rRF c q R))) rfl rfl rfl (scalT (by decide)) (h := ?_))
                          | go_big_skip
                          | (with_reducible refine atEnd_mk (by kernel_rfl) ?_))
                        go_roundg (12 - (j + 1))
                        case measure => omega
                        case rel => exact ⟨j + 1, R, n + 412, by go_num, rfl, by omega, by omega, by omega, RunOk.more hRR.out (by omega), hK.sub (.cons _ (List.Sublist.refl _))⟩
                    · go_wp2_with (first
                        | go_big_skip
                        | (with_reducible refine atEnd_mk (by kernel_rfl) ?_))
                      go_roundg (12 - (j + 1))
                      case measure => omega
                      case rel => exact ⟨j + 1, R, n + 412, by go_num, rfl, by omega, by omega, by omega, RunOk.more hRR.out (by omega), hK.sub (.cons _ (List.Sublist.refl _))⟩
                · have d5 : (y.tmod 5 == 0) = false := beq_eq_false_iff_ne.2 y5
                  have d5' : decide (y.tmod 5 = 0) = false := decide_eq_false y5
                  clear y5
                  obtain ⟨Q, hQ⟩ : ∃ Q, IntKind.i64.wrap (y.tdiv 3) = Q := ⟨_, rfl⟩
                  have HQ := Lib.hid hQ
                  clear hQ
                  obtain ⟨r3, hR3, k3⟩ := run_ticks (p := p) (q := q) (x := Q) hR2 (by omega) (by omega)
                  obtain ⟨r4, hR4, k4⟩ := run_hear (p := p) (q := q) (t := ⟨2, 0, r3.epoch + 1, 0, mvZ, poseO, 0⟩) hR3 (by omega) (by omega) HZ.out HM.out hkin.out (fun h => by cases h) (by show (0 : Int) ≤ _; omega) (fun _ => by have := hR3.ep; show r3.epoch + 1 ≤ _; omega)
                  have hep0 := hR3.ok.epoch
                  have hep1 := hR3.ep
                  replace k3 := Lib.hid k3
                  replace k4 := Lib.hid k4
                  have HR4 := Lib.hid hR4
                  clear hR3 hR4
                  clear hR2
                  go_wp2_with (first
                    | (go_at_call 26; go_must (first
                         | (with_reducible refine (Know.do2 hK (by simp) (by simp) (fun S hS => k1.out _ S hS)).mono ?_; clear hK; rintro e w' ⟨rfl, hK⟩)
                         | (with_reducible refine (Know.do2 hK (by simp) (by simp) (fun S hS => k2.out _ S hS)).mono ?_; clear hK; rintro e w' ⟨rfl, hK⟩)
                         | (with_reducible refine (Know.do2 hK (by simp) (by simp) (fun S hS => k3.out _ S hS)).mono ?_; clear hK; rintro e w' ⟨rfl, hK⟩)
                         | (with_reducible refine (Know.do2 hK (by simp) (by simp) (fun S hS => k4.out _ S hS)).mono ?_; clear hK; rintro e w' ⟨rfl, hK⟩)))
                    | ((with_reducible refine wl_at (o := ⟨some 58, _, _, _, _, _⟩) ?_); go_must (refine wl_pure (v := .agg (Op18.cells ⟨0, 0, ⟨1, 0, r.epoch, r.num + 1, m, poseO, 0⟩⟩).toArray) rfl (fun W => by kernel_rfl) ?_))
                    | ((with_reducible refine wl_at (o := ⟨some 65, _, _, _, _, _⟩) ?_); go_must (refine wl_pure (v := .agg (Op18.cells ⟨0, 0, ⟨1, 0, r.epoch, r.num + 1, m, poseO, 0⟩⟩).toArray) rfl (fun W => by kernel_rfl) ?_))
                    | ((with_reducible refine wl_at (o := ⟨some 87, _, _, _, _, _⟩) ?_); go_must (refine wl_pure (v := .int .i64 Q) rfl (fun W => by go_simp; exact HQ.out) ?_))
                    | ((with_reducible refine wl_at (o := ⟨some 88, _, _, _, _, _⟩) ?_); go_must (refine wl_pure (v := .agg (Op18.cells ⟨3, Q, ⟨0, 0, 0, 0, mvZ, poseO, 0⟩⟩).toArray) rfl (fun W => by kernel_rfl) ?_))
                    | ((with_reducible refine wl_at (o := ⟨some 97, .load _ _, _, _, _, _⟩) ?_); refine wl_loadA0 (b := q) (k := 21) (hat := Has.rfEpoch (hK.own (r := rRF c q r3))) rfl rfl rfl (scalT (by decide)) (h := ?_))
                    | ((with_reducible refine wl_at (o := ⟨some 99, _, _, _, _, _⟩) ?_); go_must (refine wl_pure (v := .agg (Tele.cells ⟨2, 0, r3.epoch + 1, 0, mvZ, poseO, 0⟩).toArray) rfl (fun W => by kernel_rfl) ?_))
                    | ((with_reducible refine wl_at (o := ⟨some 100, _, _, _, _, _⟩) ?_); go_must (refine wl_pure (v := .agg (Op18.cells ⟨0, 0, ⟨2, 0, r3.epoch + 1, 0, mvZ, poseO, 0⟩⟩).toArray) rfl (fun W => by kernel_rfl) ?_))
                    | ((with_reducible refine wl_at (o := ⟨some 76, _, _, _, _, _⟩) ?_); go_must (refine wl_ixK (i := j) (u := y) hK rfl rfl rfl rfl intTy.und intTy.size (xs := l2) (hu := HY) (h := ?_); intro b76 k76 hat76))
                    | ((with_reducible refine wl_at (o := ⟨some 85, _, _, _, _, _⟩) ?_); go_must (refine wl_ixK (i := j) (u := y) hK rfl rfl rfl rfl intTy.und intTy.size (xs := l2) (hu := HY) (h := ?_); intro b85 k85 hat85))
                    | ((with_reducible refine wl_at (o := ⟨some 111, _, _, _, _, _⟩) ?_); go_must (refine wl_ixK (i := j) (u := y) hK rfl rfl rfl rfl intTy.und intTy.size (xs := l2) (hu := HY) (h := ?_); intro b111 k111 hat111))
                    | ((with_reducible refine wl_at (o := ⟨some 121, _, _, _, _, _⟩) ?_); go_must (refine wl_ixK (i := j) (u := y) hK rfl rfl rfl rfl intTy.und intTy.size (xs := l2) (hu := HY) (h := ?_); intro b121 k121 hat121))
                    | go_big_skip
                    | ((with_reducible refine wl_at (o := ⟨_, .load _ _, _, _, _, _⟩) ?_)
                       first | refine wl_loadSK hK rfl rfl rfl (aggT (by decide)) (h := ?_) | refine wl_loadA0 rfl rfl rfl (scalT (by decide)) (h := ?_))
                    | (with_reducible refine atEnd_mk (by kernel_rfl) ?_))
                  go_loopg [12] 400 (fun k i wr => ∃ (a : Nat) (R : RM), i = .int .i64 a ∧ k = 400 - a ∧ a ≤ 400 ∧ Hid (RunOk c.p R (n + 12 + a)) ∧ Know w wr none' [rBlk b11 (Tele.cells ⟨1, 0, r.epoch, r.num + 1, m, poseO, 0⟩) 43, rROB c.p 0 p R, rRF c q R, rBlk b3 c.cells 26] [rRd elInt (.slice sa1 l1.length sc1) l1, rRd elInt (.slice sa2 l2.length sc2) l2, rConf c, stepsR])
                  case atStart => exact ⟨0, r4, rfl, rfl, by omega, RunOk.more HR4.out (by omega), hK⟩
                  case round =>
                    clear hK
                    obtain ⟨a, R, rfl, rfl, ha, hRR, hK⟩ := hrel
                    obtain ⟨un, hun⟩ : ∃ un, R.under.isSome = un := ⟨_, rfl⟩
                    have HUN := Lib.hid hun
                    have kUn := Lib.hid (fun (W : World) (h : Has W (rRF c q R)) => (show At W q 23 [.bool un] by rw [← HUN.out]; exact Has.rfUnder h))
                    clear hun
                    by_cases hlt : a < 400
                    · cases un with
                      | true =>
                        obtain ⟨R', hR', kt⟩ := run_ticks1 (p := p) (q := q) hRR.out (by omega) (by omega)
                        replace kt := Lib.hid kt
                        have HR' := Lib.hid hR'
                        clear hR'
                        go_wp2_with (first
                          | ((with_reducible refine wl_at (o := ⟨some 133, .load _ _, _, _, _, _⟩) ?_); refine wl_loadA0 (b := q) (k := 23) (hat := kUn.out _ (hK.own (r := rRF c q R))) rfl rfl rfl (scalT (by decide)) (h := ?_))
                          | ((with_reducible refine wl_at (o := ⟨some 139, _, _, _, _, _⟩) ?_); go_must (refine wl_pure (v := .agg (Op18.cells ⟨3, 0, ⟨0, 0, 0, 0, mvZ, poseO, 0⟩⟩).toArray) rfl (fun W => by kernel_rfl) ?_))
                          | (go_at_call 26; go_must (first
                       | (with_reducible refine (Know.do2 hK (by simp) (by simp) (fun S hS => kt.out _ S hS)).mono ?_; clear hK; rintro e w' ⟨rfl, hK⟩)))
                          | go_big_skip
                          | (with_reducible refine atEnd_mk (by kernel_rfl) ?_))
                        go_roundg (400 - (a + 1))
                        case measure => omega
                        case rel => exact ⟨a + 1, R', by go_num, rfl, by omega, RunOk.more HR'.out (by omega), hK⟩
                      | false =>
                        go_wp2_with (first
                          | ((with_reducible refine wl_at (o := ⟨some 133, .load _ _, _, _, _, _⟩) ?_); refine wl_loadA0 (b := q) (k := 23) (hat := kUn.out _ (hK.own (r := rRF c q R))) rfl rfl rfl (scalT (by decide)) (h := ?_))
                          | go_big_skip
                          | (with_reducible refine atEnd_mk (by kernel_rfl) ?_))
                        go_roundg (12 - (j + 1))
                        case measure => omega
                        case rel => exact ⟨j + 1, R, n + 412, by go_num, rfl, by omega, by omega, by omega, RunOk.more hRR.out (by omega), hK.sub (.cons _ (List.Sublist.refl _))⟩
                    · go_wp2_with (first
                        | go_big_skip
                        | (with_reducible refine atEnd_mk (by kernel_rfl) ?_))
                      go_roundg (12 - (j + 1))
                      case measure => omega
                      case rel => exact ⟨j + 1, R, n + 412, by go_num, rfl, by omega, by omega, by omega, RunOk.more hRR.out (by omega), hK.sub (.cons _ (List.Sublist.refl _))⟩
              · have d3 : (y.tmod 3 == 0) = false := beq_eq_false_iff_ne.2 y3
                have d3' : decide (y.tmod 3 = 0) = false := decide_eq_false y3
                clear y3
                by_cases y5 : y.tmod 5 = 0
                · have d5 : (y.tmod 5 == 0) = true := beq_iff_eq.2 y5
                  have d5' : decide (y.tmod 5 = 0) = true := decide_eq_true y5
                  clear y5
                  have HR4 := Lib.hid hR2
                  obtain ⟨r5, hR5, k5⟩ := run_delay (p := p) (q := q) (x := y) HR4.out
                  replace k5 := Lib.hid k5
                  have HR5 := Lib.hid hR5
                  clear hR5
                  clear hR2
                  go_wp2_with (first
                    | (go_at_call 26; go_must (first
                         | (with_reducible refine (Know.do2 hK (by simp) (by simp) (fun S hS => k1.out _ S hS)).mono ?_; clear hK; rintro e w' ⟨rfl, hK⟩)
                         | (with_reducible refine (Know.do2 hK (by simp) (by simp) (fun S hS => k2.out _ S hS)).mono ?_; clear hK; rintro e w' ⟨rfl, hK⟩)
                         | (with_reducible refine (Know.do2 hK (by simp) (by simp) (fun S hS => k5.out _ S hS)).mono ?_; clear hK; rintro e w' ⟨rfl, hK⟩)))
                    | ((with_reducible refine wl_at (o := ⟨some 58, _, _, _, _, _⟩) ?_); go_must (refine wl_pure (v := .agg (Op18.cells ⟨0, 0, ⟨1, 0, r.epoch, r.num + 1, m, poseO, 0⟩⟩).toArray) rfl (fun W => by kernel_rfl) ?_))
                    | ((with_reducible refine wl_at (o := ⟨some 65, _, _, _, _, _⟩) ?_); go_must (refine wl_pure (v := .agg (Op18.cells ⟨0, 0, ⟨1, 0, r.epoch, r.num + 1, m, poseO, 0⟩⟩).toArray) rfl (fun W => by kernel_rfl) ?_))
                    | ((with_reducible refine wl_at (o := ⟨some 123, _, _, _, _, _⟩) ?_); go_must (refine wl_pure (v := .agg (Op18.cells ⟨6, y, ⟨0, 0, 0, 0, mvZ, poseO, 0⟩⟩).toArray) rfl (fun W => by kernel_rfl) ?_))
                    | ((with_reducible refine wl_at (o := ⟨some 76, _, _, _, _, _⟩) ?_); go_must (refine wl_ixK (i := j) (u := y) hK rfl rfl rfl rfl intTy.und intTy.size (xs := l2) (hu := HY) (h := ?_); intro b76 k76 hat76))
                    | ((with_reducible refine wl_at (o := ⟨some 85, _, _, _, _, _⟩) ?_); go_must (refine wl_ixK (i := j) (u := y) hK rfl rfl rfl rfl intTy.und intTy.size (xs := l2) (hu := HY) (h := ?_); intro b85 k85 hat85))
                    | ((with_reducible refine wl_at (o := ⟨some 111, _, _, _, _, _⟩) ?_); go_must (refine wl_ixK (i := j) (u := y) hK rfl rfl rfl rfl intTy.und intTy.size (xs := l2) (hu := HY) (h := ?_); intro b111 k111 hat111))
                    | ((with_reducible refine wl_at (o := ⟨some 121, _, _, _, _, _⟩) ?_); go_must (refine wl_ixK (i := j) (u := y) hK rfl rfl rfl rfl intTy.und intTy.size (xs := l2) (hu := HY) (h := ?_); intro b121 k121 hat121))
                    | go_big_skip
                    | ((with_reducible refine wl_at (o := ⟨_, .load _ _, _, _, _, _⟩) ?_)
                       first | refine wl_loadSK hK rfl rfl rfl (aggT (by decide)) (h := ?_) | refine wl_loadA0 rfl rfl rfl (scalT (by decide)) (h := ?_))
                    | (with_reducible refine atEnd_mk (by kernel_rfl) ?_))
                  go_loopg [12] 400 (fun k i wr => ∃ (a : Nat) (R : RM), i = .int .i64 a ∧ k = 400 - a ∧ a ≤ 400 ∧ Hid (RunOk c.p R (n + 12 + a)) ∧ Know w wr none' [rBlk b11 (Tele.cells ⟨1, 0, r.epoch, r.num + 1, m, poseO, 0⟩) 43, rROB c.p 0 p R, rRF c q R, rBlk b3 c.cells 26] [rRd elInt (.slice sa1 l1.length sc1) l1, rRd elInt (.slice sa2 l2.length sc2) l2, rConf c, stepsR])
                  case atStart => exact ⟨0, r5, rfl, rfl, by omega, RunOk.more HR5.out (by omega), hK⟩
                  case round =>
                    clear hK
                    obtain ⟨a, R, rfl, rfl, ha, hRR, hK⟩ := hrel
                    obtain ⟨un, hun⟩ : ∃ un, R.under.isSome = un := ⟨_, rfl⟩
                    have HUN := Lib.hid hun
                    have kUn := Lib.hid (fun (W : World) (h : Has W (rRF c q R)) => (show At W q 23 [.bool un] by rw [← HUN.out]; exact Has.rfUnder h))
                    clear hun
                    by_cases hlt : a < 400
                    · cases un with
                      | true =>
                        obtain ⟨R', hR', kt⟩ := run_ticks1 (p := p) (q := q) hRR.out (by omega) (by omega)
                        replace kt := Lib.hid kt
                        have HR' := Lib.hid hR'
                        clear hR'
                        go_wp2_with (first
                          | ((with_reducible refine wl_at (o := ⟨some 133, .load _ _, _, _, _, _⟩) ?_); refine wl_loadA0 (b := q) (k := 23) (hat := kUn.out _ (hK.own (r := rRF c q R))) rfl rfl rfl (scalT (by decide)) (h := ?_))
                          | ((with_reducible refine wl_at (o := ⟨some 139, _, _, _, _, _⟩) ?_); go_must (refine wl_pure (v := .agg (Op18.cells ⟨3, 0, ⟨0, 0, 0, 0, mvZ, poseO, 0⟩⟩).toArray) rfl (fun W => by kernel_rfl) ?_))
                          | (go_at_call 26; go_must (first
                       | (with_reducible refine (Know.do2 hK (by simp) (by simp) (fun S hS => kt.out _ S hS)).mono ?_; clear hK; rintro e w' ⟨rfl, hK⟩)))
                          | go_big_skip
                          | (with_reducible refine atEnd_mk (by kernel_rfl) ?_))
                        go_roundg (400 - (a + 1))
                        case measure => omega
                        case rel => exact ⟨a + 1, R', by go_num, rfl, by omega, RunOk.more HR'.out (by omega), hK⟩
                      | false =>
                        go_wp2_with (first
                          | ((with_reducible refine wl_at (o := ⟨some 133, .load _ _, _, _, _, _⟩) ?_); refine wl_loadA0 (b := q) (k := 23) (hat := kUn.out _ (hK.own (r := rRF c q R))) rfl rfl rfl (scalT (by decide)) (h := ?_))
                          | go_big_skip
                          | (with_reducible refine atEnd_mk (by kernel_rfl) ?_))
                        go_roundg (12 - (j + 1))
                        case measure => omega
                        case rel => exact ⟨j + 1, R, n + 412, by go_num, rfl, by omega, by omega, by omega, RunOk.more hRR.out (by omega), hK.sub (.cons _ (List.Sublist.refl _))⟩
                    · go_wp2_with (first
                        | go_big_skip
                        | (with_reducible refine atEnd_mk (by kernel_rfl) ?_))
                      go_roundg (12 - (j + 1))
                      case measure => omega
                      case rel => exact ⟨j + 1, R, n + 412, by go_num, rfl, by omega, by omega, by omega, RunOk.more hRR.out (by omega), hK.sub (.cons _ (List.Sublist.refl _))⟩
                · have d5 : (y.tmod 5 == 0) = false := beq_eq_false_iff_ne.2 y5
                  have d5' : decide (y.tmod 5 = 0) = false := decide_eq_false y5
                  clear y5
                  have HR4 := Lib.hid hR2
                  clear hR2
                  go_wp2_with (first
                    | (go_at_call 26; go_must (first
                         | (with_reducible refine (Know.do2 hK (by simp) (by simp) (fun S hS => k1.out _ S hS)).mono ?_; clear hK; rintro e w' ⟨rfl, hK⟩)
                         | (with_reducible refine (Know.do2 hK (by simp) (by simp) (fun S hS => k2.out _ S hS)).mono ?_; clear hK; rintro e w' ⟨rfl, hK⟩)))
                    | ((with_reducible refine wl_at (o := ⟨some 58, _, _, _, _, _⟩) ?_); go_must (refine wl_pure (v := .agg (Op18.cells ⟨0, 0, ⟨1, 0, r.epoch, r.num + 1, m, poseO, 0⟩⟩).toArray) rfl (fun W => by kernel_rfl) ?_))
                    | ((with_reducible refine wl_at (o := ⟨some 65, _, _, _, _, _⟩) ?_); go_must (refine wl_pure (v := .agg (Op18.cells ⟨0, 0, ⟨1, 0, r.epoch, r.num + 1, m, poseO, 0⟩⟩).toArray) rfl (fun W => by kernel_rfl) ?_))
                    | ((with_reducible refine wl_at (o := ⟨some 76, _, _, _, _, _⟩) ?_); go_must (refine wl_ixK (i := j) (u := y) hK rfl rfl rfl rfl intTy.und intTy.size (xs := l2) (hu := HY) (h := ?_); intro b76 k76 hat76))
                    | ((with_reducible refine wl_at (o := ⟨some 85, _, _, _, _, _⟩) ?_); go_must (refine wl_ixK (i := j) (u := y) hK rfl rfl rfl rfl intTy.und intTy.size (xs := l2) (hu := HY) (h := ?_); intro b85 k85 hat85))
                    | ((with_reducible refine wl_at (o := ⟨some 111, _, _, _, _, _⟩) ?_); go_must (refine wl_ixK (i := j) (u := y) hK rfl rfl rfl rfl intTy.und intTy.size (xs := l2) (hu := HY) (h := ?_); intro b111 k111 hat111))
                    | ((with_reducible refine wl_at (o := ⟨some 121, _, _, _, _, _⟩) ?_); go_must (refine wl_ixK (i := j) (u := y) hK rfl rfl rfl rfl intTy.und intTy.size (xs := l2) (hu := HY) (h := ?_); intro b121 k121 hat121))
                    | go_big_skip
                    | ((with_reducible refine wl_at (o := ⟨_, .load _ _, _, _, _, _⟩) ?_)
                       first | refine wl_loadSK hK rfl rfl rfl (aggT (by decide)) (h := ?_) | refine wl_loadA0 rfl rfl rfl (scalT (by decide)) (h := ?_))
                    | (with_reducible refine atEnd_mk (by kernel_rfl) ?_))
                  go_loopg [12] 400 (fun k i wr => ∃ (a : Nat) (R : RM), i = .int .i64 a ∧ k = 400 - a ∧ a ≤ 400 ∧ Hid (RunOk c.p R (n + 12 + a)) ∧ Know w wr none' [rBlk b11 (Tele.cells ⟨1, 0, r.epoch, r.num + 1, m, poseO, 0⟩) 43, rROB c.p 0 p R, rRF c q R, rBlk b3 c.cells 26] [rRd elInt (.slice sa1 l1.length sc1) l1, rRd elInt (.slice sa2 l2.length sc2) l2, rConf c, stepsR])
                  case atStart => exact ⟨0, r2, rfl, rfl, by omega, RunOk.more HR4.out (by omega), hK⟩
                  case round =>
                    clear hK
                    obtain ⟨a, R, rfl, rfl, ha, hRR, hK⟩ := hrel
                    obtain ⟨un, hun⟩ : ∃ un, R.under.isSome = un := ⟨_, rfl⟩
                    have HUN := Lib.hid hun
                    have kUn := Lib.hid (fun (W : World) (h : Has W (rRF c q R)) => (show At W q 23 [.bool un] by rw [← HUN.out]; exact Has.rfUnder h))
                    clear hun
                    by_cases hlt : a < 400
                    · cases un with
                      | true =>
                        obtain ⟨R', hR', kt⟩ := run_ticks1 (p := p) (q := q) hRR.out (by omega) (by omega)
                        replace kt := Lib.hid kt
                        have HR' := Lib.hid hR'
                        clear hR'
                        go_wp2_with (first
                          | ((with_reducible refine wl_at (o := ⟨some 133, .load _ _, _, _, _, _⟩) ?_); refine wl_loadA0 (b := q) (k := 23) (hat := kUn.out _ (hK.own (r := rRF c q R))) rfl rfl rfl (scalT (by decide)) (h := ?_))
                          | ((with_reducible refine wl_at (o := ⟨some 139, _, _, _, _, _⟩) ?_); go_must (refine wl_pure (v := .agg (Op18.cells ⟨3, 0, ⟨0, 0, 0, 0, mvZ, poseO, 0⟩⟩).toArray) rfl (fun W => by kernel_rfl) ?_))
                          | (go_at_call 26; go_must (first
                       | (with_reducible refine (Know.do2 hK (by simp) (by simp) (fun S hS => kt.out _ S hS)).mono ?_; clear hK; rintro e w' ⟨rfl, hK⟩)))
                          | go_big_skip
                          | (with_reducible refine atEnd_mk (by kernel_rfl) ?_))
                        go_roundg (400 - (a + 1))
                        case measure => omega
                        case rel => exact ⟨a + 1, R', by go_num, rfl, by omega, RunOk.more HR'.out (by omega), hK⟩
                      | false =>
                        go_wp2_with (first
                          | ((with_reducible refine wl_at (o := ⟨some 133, .load _ _, _, _, _, _⟩) ?_); refine wl_loadA0 (b := q) (k := 23) (hat := kUn.out _ (hK.own (r := rRF c q R))) rfl rfl rfl (scalT (by decide)) (h := ?_))
                          | go_big_skip
                          | (with_reducible refine atEnd_mk (by kernel_rfl) ?_))
                        go_roundg (12 - (j + 1))
                        case measure => omega
                        case rel => exact ⟨j + 1, R, n + 412, by go_num, rfl, by omega, by omega, by omega, RunOk.more hRR.out (by omega), hK.sub (.cons _ (List.Sublist.refl _))⟩
                    · go_wp2_with (first
                        | go_big_skip
                        | (with_reducible refine atEnd_mk (by kernel_rfl) ?_))
                      go_roundg (12 - (j + 1))
                      case measure => omega
                      case rel => exact ⟨j + 1, R, n + 412, by go_num, rfl, by omega, by omega, by omega, RunOk.more hRR.out (by omega), hK.sub (.cons _ (List.Sublist.refl _))⟩
            · have hl2I : ¬ (j : Int) < (l2.length : Int) := by omega
              have HR4 := Lib.hid hR2
              clear hR2
              go_wp2_with (first
                | (go_at_call 26; go_must (first
                     | (with_reducible refine (Know.do2 hK (by simp) (by simp) (fun S hS => k1.out _ S hS)).mono ?_; clear hK; rintro e w' ⟨rfl, hK⟩)
                     | (with_reducible refine (Know.do2 hK (by simp) (by simp) (fun S hS => k2.out _ S hS)).mono ?_; clear hK; rintro e w' ⟨rfl, hK⟩)))
                | ((with_reducible refine wl_at (o := ⟨some 58, _, _, _, _, _⟩) ?_); go_must (refine wl_pure (v := .agg (Op18.cells ⟨0, 0, ⟨1, 0, r.epoch, r.num + 1, m, poseO, 0⟩⟩).toArray) rfl (fun W => by kernel_rfl) ?_))
                | ((with_reducible refine wl_at (o := ⟨some 65, _, _, _, _, _⟩) ?_); go_must (refine wl_pure (v := .agg (Op18.cells ⟨0, 0, ⟨1, 0, r.epoch, r.num + 1, m, poseO, 0⟩⟩).toArray) rfl (fun W => by kernel_rfl) ?_))
                | go_big_skip
                | ((with_reducible refine wl_at (o := ⟨_, .load _ _, _, _, _, _⟩) ?_)
                   first | refine wl_loadSK hK rfl rfl rfl (aggT (by decide)) (h := ?_) | refine wl_loadA0 rfl rfl rfl (scalT (by decide)) (h := ?_))
                | (with_reducible refine atEnd_mk (by kernel_rfl) ?_))
              go_loopg [12] 400 (fun k i wr => ∃ (a : Nat) (R : RM), i = .int .i64 a ∧ k = 400 - a ∧ a ≤ 400 ∧ Hid (RunOk c.p R (n + 12 + a)) ∧ Know w wr none' [rBlk b11 (Tele.cells ⟨1, 0, r.epoch, r.num + 1, m, poseO, 0⟩) 43, rROB c.p 0 p R, rRF c q R, rBlk b3 c.cells 26] [rRd elInt (.slice sa1 l1.length sc1) l1, rRd elInt (.slice sa2 l2.length sc2) l2, rConf c, stepsR])
              case atStart => exact ⟨0, r2, rfl, rfl, by omega, RunOk.more HR4.out (by omega), hK⟩
              case round =>
                clear hK
                obtain ⟨a, R, rfl, rfl, ha, hRR, hK⟩ := hrel
                obtain ⟨un, hun⟩ : ∃ un, R.under.isSome = un := ⟨_, rfl⟩
                have HUN := Lib.hid hun
                have kUn := Lib.hid (fun (W : World) (h : Has W (rRF c q R)) => (show At W q 23 [.bool un] by rw [← HUN.out]; exact Has.rfUnder h))
                clear hun
                by_cases hlt : a < 400
                · cases un with
                  | true =>
                    obtain ⟨R', hR', kt⟩ := run_ticks1 (p := p) (q := q) hRR.out (by omega) (by omega)
                    replace kt := Lib.hid kt
                    have HR' := Lib.hid hR'
                    clear hR'
                    go_wp2_with (first
                      | ((with_reducible refine wl_at (o := ⟨some 133, .load _ _, _, _, _, _⟩) ?_); refine wl_loadA0 (b := q) (k := 23) (hat := kUn.out _ (hK.own (r := rRF c q R))) rfl rfl rfl (scalT (by decide)) (h := ?_))
                      | ((with_reducible refine wl_at (o := ⟨some 139, _, _, _, _, _⟩) ?_); go_must (refine wl_pure (v := .agg (Op18.cells ⟨3, 0, ⟨0, 0, 0, 0, mvZ, poseO, 0⟩⟩).toArray) rfl (fun W => by kernel_rfl) ?_))
                      | (go_at_call 26; go_must (first
                   | (with_reducible refine (Know.do2 hK (by simp) (by simp) (fun S hS => kt.out _ S hS)).mono ?_; clear hK; rintro e w' ⟨rfl, hK⟩)))
                      | go_big_skip
                      | (with_reducible refine atEnd_mk (by kernel_rfl) ?_))
                    go_roundg (400 - (a + 1))
                    case measure => omega
                    case rel => exact ⟨a + 1, R', by go_num, rfl, by omega, RunOk.more HR'.out (by omega), hK⟩
                  | false =>
                    go_wp2_with (first
                      | ((with_reducible refine wl_at (o := ⟨some 133, .load _ _, _, _, _, _⟩) ?_); refine wl_loadA0 (b := q) (k := 23) (hat := kUn.out _ (hK.own (r := rRF c q R))) rfl rfl rfl (scalT (by decide)) (h := ?_))
                      | go_big_skip
                      | (with_reducible refine atEnd_mk (by kernel_rfl) ?_))
                    go_roundg (12 - (j + 1))
                    case measure => omega
                    case rel => exact ⟨j + 1, R, n + 412, by go_num, rfl, by omega, by omega, by omega, RunOk.more hRR.out (by omega), hK.sub (.cons _ (List.Sublist.refl _))⟩
                · go_wp2_with (first
                    | go_big_skip
                    | (with_reducible refine atEnd_mk (by kernel_rfl) ?_))
                  go_roundg (12 - (j + 1))
                  case measure => omega
                  case rel => exact ⟨j + 1, R, n + 412, by go_num, rfl, by omega, by omega, by omega, RunOk.more hRR.out (by omega), hK.sub (.cons _ (List.Sublist.refl _))⟩
        · have hend : (decide ((j : Int) < (l1.length : Int)) && decide ((j : Int) < 12)) = false := by
            rw [Bool.and_eq_false_iff, decide_eq_false_iff_not, decide_eq_false_iff_not]; omega
          have hout : ¬ ((j : Int) < (l1.length : Int)) ∨ ((j : Int) < (l1.length : Int)) ∧ ¬ ((j : Int) < 12) := by omega
          rcases hout with hout | ⟨hout, hout2⟩
          all_goals
            go_wp2_with (first
              | (go_at_call 9; go_must (refine (hK.quiet (awake_calls hK.lent)).mono ?_; clear hK; rintro e w' ⟨rfl, hK⟩))
              | go_big_skip
              | (with_reducible refine atEnd_mk (by kernel_rfl) ?_))
            go_ret
            exact ⟨rfl, hK.mod⟩
end Go.Proofs.YtcjpnlplibaffaaGreatDoor
