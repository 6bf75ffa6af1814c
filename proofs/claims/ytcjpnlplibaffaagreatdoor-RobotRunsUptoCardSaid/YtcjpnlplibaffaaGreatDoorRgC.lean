/- Texts of mine that belong together: Rg4, Rg5. -/
import Derived.Test.YtcjpnlplibaffaaGreatDoorRgB
import Derived.Test.YtcjpnlplibaffaaGreatDoorRgA
import Derived.Test.YtcjpnlplibaffaaGreatDoorRbC
set_option linter.all false
/- The reference's robot: what a move lasts, New, the laws' go-aheads. -/
namespace Go.Proofs.YtcjpnlplibaffaaGreatDoor
open Go Go.Sk Go.RowKit
set_option maxRecDepth 100000

set_option maxHeartbeats 1000000 in
theorem ref_kin {c : ConfV} {w : World} : Calls Tryz.prog 35 #[.agg c.cells.toArray] w (Ret (.agg (kinH (kinOf c.p)).toArray) w) := by
  have hK : Know w w none' [] [] := Know.start (L := []) w (by simp)
  go_enter Tryz.func35, Tryz.ntmps35
  go_wp2_with (first
    | ((with_reducible refine wl_at (o := ⟨some 1, .box _ _, _, _, _, _⟩) ?_)
       go_must (refine wl_boxK hK rfl rfl rfl rfl ?_; clear hK; intro w1 b1 hK))
    | ((with_reducible refine wl_at (o := ⟨some 2, .alloc _, _, _, _, _⟩) ?_)
       go_must (refine wl_allocK (z := .agg ([.int .i64 0, .int .i64 0, .int .i64 0]).toArray) (zs := [.int .i64 0, .int .i64 0, .int .i64 0]) hK rfl rfl (by kernel_rfl) rfl ?_; clear hK; intro w2 b2 hK))
    | ((with_reducible refine wl_at (o := ⟨some 9, _, _, _, _, _⟩) ?_); go_must (refine wl_pure (v := .agg (kinH (kinOf c.p)).toArray) rfl (fun W => by kernel_rfl) ?_))
    | ((with_reducible refine wl_at (o := ⟨none, .store 89 _ _, _, _, _, _⟩) ?_)
       go_must (refine wl_storeWK (vs := kinH (kinOf c.p)) hK rfl rfl rfl rfl (aggS (by decide)) (kinH_one _) (h := ?_); clear hK; intro w' hK; simp only [List.set_cons_zero, List.set_cons_succ] at hK))
    | go_big_skip
    | go_big_skip
    | ((with_reducible refine wl_at (o := ⟨_, .load _ _, _, _, _, _⟩) ?_)
       first
         | refine wl_loadK hK rfl rfl rfl (scalT (by decide)) (h := ?_)
         | refine wl_loadSK hK rfl rfl rfl (aggT (by decide)) (h := ?_)
         | refine wl_loadA0 rfl rfl rfl (scalT (by decide)) (h := ?_)
         | refine wl_loadA rfl rfl rfl (scalT (by decide)) (h := ?_)
         | refine wl_loadSA rfl rfl rfl (aggT (by decide)) (h := ?_))
    | (with_reducible refine atEnd_mk (by kernel_rfl) ?_))
  exact bodyPost_ret (res_cellS rfl _ rfl (aggT (by decide)) rfl (hK.blk (b := b2) (cs := kinH (kinOf c.p))).at0) rfl ⟨rfl, hK.mod⟩

/-- How long a move lasts. -/
def lastsP (c : ConfP) (m : Go.Sk.Move) : Int := if m.kind = 1 then (kinOf c).time m.n else if m.kind = 2 then c.turn else if m.kind = 3 ∨ m.kind = 4 then c.hoist else 0

set_option maxHeartbeats 1000000 in
theorem ref_lasts {c : ConfV} {m : Go.Sk.Move} {w : World} (hk : (kinOf c.p).Ok) : Calls Tryz.prog 19 #[.agg c.cells.toArray, .agg m.cells.toArray] w (Ret (.int .i64 (lastsP c.p m)) w) := by
  have hK : Know w w none' [] [] := Know.start (L := []) w (by simp)
  have kT := Lib.hid (fun (W : World) => k9_time hk (n := m.n) (w := W))
  have kC := Lib.hid (fun (W : World) => ref_kin (c := c) (w := W))
  obtain ⟨T, hT⟩ : ∃ T, (kinOf c.p).time m.n = T := ⟨_, rfl⟩
  rw [hT] at kT
  obtain ⟨Y, hY⟩ : ∃ Y, kinH (kinOf c.p) = Y := ⟨_, rfl⟩
  rw [hY] at kT kC
  unfold lastsP
  rw [hT]
  clear hT hY
  by_cases k1 : m.kind = 1
  · have e1 : (m.kind == 1) = true := beq_iff_eq.2 k1
    have e1' : decide (m.kind = 1) = true := decide_eq_true k1
    rw [if_pos k1]
    clear k1
    go_enter Tryz.func19, Tryz.ntmps19
    go_wp2_with (first
      | ((with_reducible refine wl_at (o := ⟨some 2, .box _ _, _, _, _, _⟩) ?_)
         go_must (refine wl_boxK hK rfl rfl rfl rfl ?_; clear hK; intro w2 b2 hK))
      | ((with_reducible refine wl_at (o := ⟨some 3, .box _ _, _, _, _, _⟩) ?_)
         go_must (refine wl_boxK hK rfl rfl rfl rfl ?_; clear hK; intro w3 b3 hK))
      | ((with_reducible refine wp_region_stableK (id := 3) hK [3] [rBlk b3 m.cells 41] (by kernel_rfl) (by kernel_rfl) (by simp) (by kernel_rfl) ?_); clear hK; intro w' hK)
      | (with_reducible refine wpC_of ?_)
      | (with_reducible refine atEndC (hK.cls (by simp)) ?_)
      | ((with_reducible refine wpC_end' ?_); refine wpC_nil ⟨by kernel_rfl, stays_loadK rfl rfl rfl rfl (scalT (by decide)) rfl (rest := stays_nil), ?_⟩)
      | (go_at_call 35; go_must (refine (hK.quiet (kC.out _)).mono ?_; clear hK; rintro e w' ⟨rfl, hK⟩))
      | (go_at_call 36; go_must (refine (hK.quiet (kT.out _)).mono ?_; clear hK; rintro e w' ⟨rfl, hK⟩))
      | go_big_skip
      | go_big_skip
      | ((with_reducible refine wl_at (o := ⟨_, .load _ _, _, _, _, _⟩) ?_)
         first
           | refine wl_loadK hK rfl rfl rfl (scalT (by decide)) (h := ?_)
           | refine wl_loadSK hK rfl rfl rfl (aggT (by decide)) (h := ?_)
           | refine wl_loadA0 rfl rfl rfl (scalT (by decide)) (h := ?_)
           | refine wl_loadA rfl rfl rfl (scalT (by decide)) (h := ?_)
           | refine wl_loadSA rfl rfl rfl (aggT (by decide)) (h := ?_))
      | (with_reducible refine atEnd_mk (by kernel_rfl) ?_))
    go_ret
    exact ⟨rfl, hK.mod⟩
  · have e1 : (m.kind == 1) = false := beq_eq_false_iff_ne.2 k1
    have e1' : decide (m.kind = 1) = false := decide_eq_false k1
    rw [if_neg k1]
    clear k1
    by_cases k2 : m.kind = 2
    · have e2 : (m.kind == 2) = true := beq_iff_eq.2 k2
      have e2' : decide (m.kind = 2) = true := decide_eq_true k2
      rw [if_pos k2]
      clear k2
      go_enter Tryz.func19, Tryz.ntmps19
      go_wp2_with (first
        | ((with_reducible refine wl_at (o := ⟨some 2, .box _ _, _, _, _, _⟩) ?_)
           go_must (refine wl_boxK hK rfl rfl rfl rfl ?_; clear hK; intro w2 b2 hK))
        | ((with_reducible refine wl_at (o := ⟨some 3, .box _ _, _, _, _, _⟩) ?_)
           go_must (refine wl_boxK hK rfl rfl rfl rfl ?_; clear hK; intro w3 b3 hK))
        | go_big_skip
        | go_big_skip
        | ((with_reducible refine wl_at (o := ⟨_, .load _ _, _, _, _, _⟩) ?_)
           first
             | refine wl_loadK hK rfl rfl rfl (scalT (by decide)) (h := ?_)
             | refine wl_loadSK hK rfl rfl rfl (aggT (by decide)) (h := ?_)
             | refine wl_loadA0 rfl rfl rfl (scalT (by decide)) (h := ?_)
             | refine wl_loadA rfl rfl rfl (scalT (by decide)) (h := ?_)
             | refine wl_loadSA rfl rfl rfl (aggT (by decide)) (h := ?_))
        | (with_reducible refine atEnd_mk (by kernel_rfl) ?_))
      go_ret
      exact ⟨rfl, hK.mod⟩
    · have e2 : (m.kind == 2) = false := beq_eq_false_iff_ne.2 k2
      have e2' : decide (m.kind = 2) = false := decide_eq_false k2
      rw [if_neg k2]
      clear k2
      by_cases k3 : m.kind = 3
      · have e3 : (m.kind == 3) = true := beq_iff_eq.2 k3
        have e3' : decide (m.kind = 3) = true := decide_eq_true k3
        rw [if_pos (.inl k3)]
        clear k3
        go_enter Tryz.func19, Tryz.ntmps19
        go_wp2_with (first
          | ((with_reducible refine wl_at (o := ⟨some 2, .box _ _, _, _, _, _⟩) ?_)
             go_must (refine wl_boxK hK rfl rfl rfl rfl ?_; clear hK; intro w2 b2 hK))
          | ((with_reducible refine wl_at (o := ⟨some 3, .box _ _, _, _, _, _⟩) ?_)
             go_must (refine wl_boxK hK rfl rfl rfl rfl ?_; clear hK; intro w3 b3 hK))
          | go_big_skip
          | go_big_skip
          | ((with_reducible refine wl_at (o := ⟨_, .load _ _, _, _, _, _⟩) ?_)
             first
               | refine wl_loadK hK rfl rfl rfl (scalT (by decide)) (h := ?_)
               | refine wl_loadSK hK rfl rfl rfl (aggT (by decide)) (h := ?_)
               | refine wl_loadA0 rfl rfl rfl (scalT (by decide)) (h := ?_)
               | refine wl_loadA rfl rfl rfl (scalT (by decide)) (h := ?_)
               | refine wl_loadSA rfl rfl rfl (aggT (by decide)) (h := ?_))
          | (with_reducible refine atEnd_mk (by kernel_rfl) ?_))
        go_ret
        exact ⟨rfl, hK.mod⟩
      · have e3 : (m.kind == 3) = false := beq_eq_false_iff_ne.2 k3
        have e3' : decide (m.kind = 3) = false := decide_eq_false k3
        by_cases k4 : m.kind = 4
        · have e4 : (m.kind == 4) = true := beq_iff_eq.2 k4
          have e4' : decide (m.kind = 4) = true := decide_eq_true k4
          rw [if_pos (.inr k4)]
          clear k3 k4
          go_enter Tryz.func19, Tryz.ntmps19
          go_wp2_with (first
            | ((with_reducible refine wl_at (o := ⟨some 2, .box _ _, _, _, _, _⟩) ?_)
               go_must (refine wl_boxK hK rfl rfl rfl rfl ?_; clear hK; intro w2 b2 hK))
            | ((with_reducible refine wl_at (o := ⟨some 3, .box _ _, _, _, _, _⟩) ?_)
               go_must (refine wl_boxK hK rfl rfl rfl rfl ?_; clear hK; intro w3 b3 hK))
            | go_big_skip
            | go_big_skip
            | ((with_reducible refine wl_at (o := ⟨_, .load _ _, _, _, _, _⟩) ?_)
               first
                 | refine wl_loadK hK rfl rfl rfl (scalT (by decide)) (h := ?_)
                 | refine wl_loadSK hK rfl rfl rfl (aggT (by decide)) (h := ?_)
                 | refine wl_loadA0 rfl rfl rfl (scalT (by decide)) (h := ?_)
                 | refine wl_loadA rfl rfl rfl (scalT (by decide)) (h := ?_)
                 | refine wl_loadSA rfl rfl rfl (aggT (by decide)) (h := ?_))
            | (with_reducible refine atEnd_mk (by kernel_rfl) ?_))
          go_ret
          exact ⟨rfl, hK.mod⟩
        · have e4 : (m.kind == 4) = false := beq_eq_false_iff_ne.2 k4
          have e4' : decide (m.kind = 4) = false := decide_eq_false k4
          rw [if_neg (show ¬ (m.kind = 3 ∨ m.kind = 4) by omega)]
          clear k3 k4
          go_enter Tryz.func19, Tryz.ntmps19
          go_wp2_with (first
            | ((with_reducible refine wl_at (o := ⟨some 2, .box _ _, _, _, _, _⟩) ?_)
               go_must (refine wl_boxK hK rfl rfl rfl rfl ?_; clear hK; intro w2 b2 hK))
            | ((with_reducible refine wl_at (o := ⟨some 3, .box _ _, _, _, _, _⟩) ?_)
               go_must (refine wl_boxK hK rfl rfl rfl rfl ?_; clear hK; intro w3 b3 hK))
            | go_big_skip
            | go_big_skip
            | ((with_reducible refine wl_at (o := ⟨_, .load _ _, _, _, _, _⟩) ?_)
               first
                 | refine wl_loadK hK rfl rfl rfl (scalT (by decide)) (h := ?_)
                 | refine wl_loadSK hK rfl rfl rfl (aggT (by decide)) (h := ?_)
                 | refine wl_loadA0 rfl rfl rfl (scalT (by decide)) (h := ?_)
                 | refine wl_loadA rfl rfl rfl (scalT (by decide)) (h := ?_)
                 | refine wl_loadSA rfl rfl rfl (aggT (by decide)) (h := ?_))
            | (with_reducible refine atEnd_mk (by kernel_rfl) ?_))
          go_ret
          exact ⟨rfl, hK.mod⟩

/-- The reference's robot. -/
structure R18 where
  i : Int
  pose : Pose
  load : Int
  epoch : Int
  num : Int
  under : Bool
  move : Go.Sk.Move
  left : Int
  gone : Int
  wait : Int
  stopping : Bool
  cut : Bool
def R18.cells (c : ConfV) (r : R18) : List Value := c.cells ++ ([.int .i64 r.i] ++ (r.pose.cells ++ ([.int .i64 r.load, .int .i64 r.epoch, .int .i64 r.num, .bool r.under] ++ (r.move.cells ++ [.int .i64 r.left, .int .i64 r.gone, .int .i64 r.wait, .bool r.stopping, .bool r.cut]))))
def R18.start (i : Int) (p : Pose) : R18 := ⟨i, p, 0, 0, 0, false, mvZ, 0, 0, 0, false, false⟩

set_option maxHeartbeats 1000000 in
theorem ref_new {c : ConfV} {u : Pose} {w : World} (hc : Has w (rConf c)) (hr : c.robots.l[0]? = some u) : Calls Tryz.prog 14 #[.agg c.cells.toArray, .int .i64 0] w fun e w' => ∃ p, e = .returned (.pointer (some ⟨p, 0, none⟩)) ∧ Turn (rBlk p ((R18.start 0 u).cells c) 70) w w' none' := by
  have hK := Know.start (L := [rConf c]) w (by simpa using hc)
  have HU := Lib.hid hr
  clear hc
  replace hK := hK.part (r := rConf c) (r' := rRd elPose c.robots.val c.robots.l) (by simp) (rAll_mem (by simp))
  clear hr
  go_enter Tryz.func14, Tryz.ntmps14
  go_wp2_with (first
    | ((with_reducible refine wl_at (o := ⟨some 2, .box _ _, _, _, _, _⟩) ?_)
       go_must (refine wl_boxK hK rfl rfl rfl rfl ?_; clear hK; intro w2 b2 hK))
    | ((with_reducible refine wp_region_textK (id := 1) hK (by kernel_rfl) (by kernel_rfl) ?_); clear hK; intro w' hK)
    | ((with_reducible refine wl_at (o := ⟨some 10, _, _, _, _, _⟩) ?_); go_must (refine wl_ixK (i := 0) (u := u) hK rfl rfl rfl rfl poseTy.und poseTy.size (hu := HU) (h := ?_); intro b10 k10 hat10))
    | ((with_reducible refine wl_at (o := ⟨some 12, _, _, _, _, _⟩) ?_); go_must (refine wl_pure (v := .agg ((R18.start 0 u).cells c).toArray) rfl (fun W => by kernel_rfl) ?_))
    | ((with_reducible refine wl_at (o := ⟨some 13, .box _ _, _, _, _, _⟩) ?_)
       go_must (refine wl_boxK hK rfl rfl rfl rfl ?_; clear hK; intro w13 b13 hK))
    | go_big_skip
    | go_big_skip
    | ((with_reducible refine wl_at (o := ⟨_, .load _ _, _, _, _, _⟩) ?_)
       first
         | refine wl_loadK hK rfl rfl rfl (scalT (by decide)) (h := ?_)
         | refine wl_loadSK hK rfl rfl rfl (aggT (by decide)) (h := ?_)
         | refine wl_loadA0 rfl rfl rfl (scalT (by decide)) (h := ?_)
         | refine wl_loadA rfl rfl rfl (scalT (by decide)) (h := ?_)
         | refine wl_loadSA rfl rfl rfl (aggT (by decide)) (h := ?_))
    | (with_reducible refine atEnd_mk (by kernel_rfl) ?_))
  go_ret
  exact ⟨b13, rfl, (hK.sub (.cons_cons _ (.cons _ .slnil))).turn⟩
end Go.Proofs.YtcjpnlplibaffaaGreatDoor

/- The laws' go-aheads. -/
namespace Go.Proofs.YtcjpnlplibaffaaGreatDoor
open Go Go.Sk Go.RowKit
set_option maxRecDepth 100000

/-- A go-ahead's move. -/
structure GosOk (c : ConfP) (p : Pose) (m : Go.Sk.Move) : Prop where
  legal : legalP c m = true
  src : m.src = p
  kind : m.kind = 1 ∨ m.kind = 2 ∨ m.kind = 3
  at_ : 0 ≤ m.at_ ∧ m.at_ ≤ 999
  fin : m.fin = m.at_ + lastsP c m
theorem legalP_time (c : ConfP) (m : Go.Sk.Move) (a e : Int) : legalP c { m with at_ := a, fin := e } = legalP c m := rfl
theorem lastsP_time (c : ConfP) (m : Go.Sk.Move) (a e : Int) : lastsP c { m with at_ := a, fin := e } = lastsP c m := rfl
theorem legalP_n {c : ConfP} {m : Go.Sk.Move} (h : legalP c m = true) : 0 ≤ m.n ∧ m.n ≤ 16 := by
  unfold legalP at h
  simp only [Bool.and_eq_true] at h
  have h := h.2
  split at h
  · simp only [Bool.and_eq_true, decide_eq_true_eq] at h; omega
  · split at h
    · simp only [Bool.and_eq_true, decide_eq_true_eq] at h; omega
    · split at h
      · simp only [Bool.and_eq_true, decide_eq_true_eq] at h; omega
      · cases h
theorem lastsP_bd {c : ConfP} {m : Go.Sk.Move} (hm : MayP c) (h : legalP c m = true) : 1 ≤ lastsP c m ∧ lastsP c m ≤ 16000 := by
  have hn := nums_iff.1 hm.nums
  have h1 := hn.turn
  have h2 := hn.hoist
  have hk := kinOf_ok hm
  have h0 := h
  unfold legalP at h
  simp only [Bool.and_eq_true] at h
  have h := h.2
  unfold lastsP
  split at h
  · rename_i k1
    rw [if_pos k1]
    simp only [Bool.and_eq_true, decide_eq_true_eq] at h
    have := KinP.prof_len hk m.n
    have := KinP.prof_pos hk (n := m.n) (by omega)
    unfold KinP.time
    omega
  · rename_i k1
    rw [if_neg k1]
    split at h
    · rename_i k2; rw [if_pos k2]; omega
    · rename_i k2
      rw [if_neg k2]
      split at h
      · rename_i k3; rw [if_pos k3]; omega
      · cases h

set_option maxHeartbeats 4000000 in
theorem gos_calls {c : ConfV} {r : R18} {p : Nat} {n late : Int} {w : World} (hm : MayP c.p) (hc : Has w (rConf c)) (hb : Has w (rBlk p (r.cells c) 70)) (hz : Sized c) (hp : PoseWf r.pose) (hfit : fitsB c.p r.pose = true) (hnum : 0 ≤ r.num ∧ r.num ≤ 1000000000) :
    Calls Tryz.prog 13 #[.agg c.cells.toArray, .pointer (some ⟨p, 0, none⟩), .int .i64 n, .int .i64 late] w fun e w' => ∃ m, e = .returned (.agg (Tele.cells ⟨1, r.i, r.epoch, r.num + 1, m, poseO, 0⟩).toArray) ∧ Hid (GosOk c.p r.pose m) ∧ Mod none' w w' := by
  have hK := Know.start (L := [rConf c, rBlk p (r.cells c) 70]) w (by
    intro x hx
    simp only [List.mem_cons, List.not_mem_nil, or_false] at hx
    rcases hx with rfl | rfl
    · exact hc
    · exact hb)
  have kM := Lib.hid (fun (W : World) (h : Has W (rConf c)) => ref_moves (p := r.pose) h hz hp)
  have kL := Lib.hid (fun (W : World) (m : Go.Sk.Move) => ref_lasts (c := c) (m := m) (w := W) (kinOf_ok hm))
  have kP := Lib.hid (fun (W : World) (v k : Int) (h0 : 0 < k) (h1 : k ≤ 9223372036854775807) => show Calls Tryz.prog 16 #[.int .i64 v, .int .i64 k] W (Ret (.int .i64 (v % k)) W) from
    (Place_calls v k W h0 h1).mono fun e w' h => ⟨h.1, by rw [h.2]; exact Mod.refl _ _⟩)
  have kB := Lib.hid (fun (m : Go.Sk.Move) (h : legalP c.p m = true) => lastsP_bd hm h)
  have HF := Lib.hid hfit
  have HN := Lib.hid hm
  obtain ⟨n0, n1⟩ := hnum
  clear hc hb hz hp hfit hm
  go_enter Tryz.func13, Tryz.ntmps13
  go_wp2_with (first
    | ((with_reducible refine wl_at (o := ⟨some 4, .box _ _, _, _, _, _⟩) ?_)
       go_must (refine wl_boxK hK rfl rfl rfl rfl ?_; clear hK; intro w4 b4 hK))
    | ((with_reducible refine wl_at (o := ⟨some 8, .alloc _, _, _, _, _⟩) ?_)
       go_must (refine wl_allocK (z := .agg (Tele.cells ⟨0, 0, 0, 0, mvZ, poseO, 0⟩).toArray) (zs := Tele.cells ⟨0, 0, 0, 0, mvZ, poseO, 0⟩) hK rfl rfl (by kernel_rfl) rfl ?_; clear hK; intro w8 b8 hK))
    | ((with_reducible refine wp_region_textK (id := 1) hK (by kernel_rfl) (by kernel_rfl) ?_); clear hK; intro w' hK)
    | ((with_reducible refine wp_region_textK (id := 2) hK (by kernel_rfl) (by kernel_rfl) ?_); clear hK; intro w' hK)
    | ((with_reducible refine wl_at (o := ⟨some 15, _, _, _, _, _⟩) ?_); go_must (refine wl_loadPK (Pose.cells r.pose) hK rfl rfl rfl (aggT (by decide)) (h := ?_)))
    | (go_at_call 32; go_must (refine (kM.out _ hK.lent).mono ?_; rintro e w' ⟨ad, ln, cap, l, rfl, hln, hl65, hl, hT⟩; replace hK := hK.push1 hT; have HLN := Lib.hid hln; clear hT hln))
    | ((with_reducible refine wl_at (o := ⟨some 30, _, _, _, _, _⟩) ?_); go_must (refine wl_pure (v := .agg (Tele.cells ⟨1, r.i, r.epoch, r.num + 1, mvZ, poseO, 0⟩).toArray) rfl (fun W => by kernel_rfl) ?_))
    | ((with_reducible refine wl_at (o := ⟨some 10, .alloc _, _, _, _, _⟩) ?_)
       go_must (refine wl_allocK (z := .agg (Tele.cells ⟨0, 0, 0, 0, mvZ, poseO, 0⟩).toArray) (zs := Tele.cells ⟨0, 0, 0, 0, mvZ, poseO, 0⟩) hK rfl rfl (by kernel_rfl) rfl ?_; clear hK; intro w10 b10 hK))
    | ((with_reducible refine wl_at (o := ⟨none, .store 43 _ _, _, _, _, _⟩) ?_)
       go_must (refine wl_storeWK (vs := Tele.cells ⟨1, r.i, r.epoch, r.num + 1, mvZ, poseO, 0⟩) hK rfl rfl rfl rfl (aggS (by decide)) (elTele.one _) (h := ?_); clear hK; intro w' hK; simp only [List.set_cons_zero, List.set_cons_succ] at hK))
    | go_big_skip
    | go_big_skip
    | ((with_reducible refine wl_at (o := ⟨_, .load _ _, _, _, _, _⟩) ?_)
       first
         | refine wl_loadK hK rfl rfl rfl (scalT (by decide)) (h := ?_)
         | refine wl_loadSK hK rfl rfl rfl (aggT (by decide)) (h := ?_)
         | refine wl_loadA0 rfl rfl rfl (scalT (by decide)) (h := ?_)
         | refine wl_loadA rfl rfl rfl (scalT (by decide)) (h := ?_)
         | refine wl_loadSA rfl rfl rfl (aggT (by decide)) (h := ?_))
    | (with_reducible refine atEnd_mk (by kernel_rfl) ?_))
  · have h0 : ln = 0 := by
      have := ‹((ln : Int) == 0) = true›
      simpa using this
    clear kM kL kP kB
    go_wp2_with (first
      | ((with_reducible refine wp_region_textK (id := 4) hK (by kernel_rfl) (by kernel_rfl) ?_); clear hK; intro w' hK)
      | ((with_reducible refine wl_at (o := ⟨some 37, _, _, _, _, _⟩) ?_); go_must (refine wl_loadPK (Pose.cells r.pose) hK rfl rfl rfl (aggT (by decide)) (h := ?_)))
      | ((with_reducible refine wl_at (o := ⟨some 41, _, _, _, _, _⟩) ?_); go_must (refine wl_loadPK (Pose.cells r.pose) hK rfl rfl rfl (aggT (by decide)) (h := ?_)))
      | ((with_reducible refine wl_at (o := ⟨some 44, _, _, _, _, _⟩) ?_); go_must (refine wl_pure (v := .agg (Move.cells ⟨3, 0, 0, r.pose, r.pose, 0, c.hoist⟩).toArray) rfl (fun W => by kernel_rfl) ?_))
      | ((with_reducible refine wl_at (o := ⟨none, .store 41 _ _, _, _, _, _⟩) ?_)
         go_must (refine wl_storePK (n := 11) (Move.cells ⟨3, 0, 0, r.pose, r.pose, 0, c.hoist⟩) (Tele.cells ⟨1, r.i, r.epoch, r.num + 1, ⟨3, 0, 0, r.pose, r.pose, 0, c.hoist⟩, poseO, 0⟩) hK rfl rfl rfl rfl (aggS (by decide)) (elMove.one _) (hk := by simp [Tele.cells, Move.cells, Pose.cells]) (hc := rfl) (h := ?_); clear hK; intro w' hK; simp only [List.set_cons_zero, List.set_cons_succ] at hK))
      | ((with_reducible refine wl_at (o := ⟨none, .store 43 _ _, _, _, _, _⟩) ?_)
         go_must (refine wl_storeWK (vs := Tele.cells ⟨1, r.i, r.epoch, r.num + 1, ⟨3, 0, 0, r.pose, r.pose, 0, c.hoist⟩, poseO, 0⟩) hK rfl rfl rfl rfl (aggS (by decide)) (elTele.one _) (h := ?_); clear hK; intro w' hK; simp only [List.set_cons_zero, List.set_cons_succ] at hK))
      | go_big_skip
      | go_big_skip
      | ((with_reducible refine wl_at (o := ⟨_, .load _ _, _, _, _, _⟩) ?_)
         first
           | refine wl_loadK hK rfl rfl rfl (scalT (by decide)) (h := ?_)
           | refine wl_loadSK hK rfl rfl rfl (aggT (by decide)) (h := ?_)
           | refine wl_loadA0 rfl rfl rfl (scalT (by decide)) (h := ?_)
           | refine wl_loadA rfl rfl rfl (scalT (by decide)) (h := ?_)
           | refine wl_loadSA rfl rfl rfl (aggT (by decide)) (h := ?_))
      | (with_reducible refine atEnd_mk (by kernel_rfl) ?_))
    refine bodyPost_ret (res_cellS rfl _ rfl (aggT (by decide)) rfl (hK.blk (b := b8) (cs := Tele.cells ⟨1, r.i, r.epoch, r.num + 1, ⟨3, 0, 0, r.pose, r.pose, 0, c.hoist⟩, poseO, 0⟩)).at0) rfl ⟨⟨3, 0, 0, r.pose, r.pose, 0, c.hoist⟩, rfl, ⟨?_, rfl, .inr (.inr rfl), by simp only []; omega, ?_⟩, hK.mod⟩
    · simp [legalP, HF.out]
    · simp [lastsP]; rfl
  · have h0 : 0 < ln := by
      have := ‹((ln : Int) == 0) = false›
      simp at this
      omega
    obtain ⟨k, hk⟩ : ∃ k : Nat, n % (ln : Int) = (k : Int) := ⟨(n % (ln : Int)).toNat, by have := Int.emod_nonneg n (show (ln : Int) ≠ 0 by omega); omega⟩
    have hkl : k < ln := by have := Int.emod_lt_of_pos n (show (0 : Int) < ln by omega); omega
    have kP1 := Lib.hid (fun (W : World) => kP.out W n ln (by omega) (by omega))
    rw [hk] at kP1
    have kP2 := Lib.hid (fun (W : World) => kP.out W late 1000 (by omega) (by omega))
    have ha0 : 0 ≤ late % 1000 := Int.emod_nonneg late (by omega)
    have ha1 : late % 1000 < 1000 := Int.emod_lt_of_pos late (by omega)
    obtain ⟨A, hA⟩ : ∃ A, late % 1000 = A := ⟨_, rfl⟩
    rw [hA] at kP2 ha0 ha1
    obtain ⟨u, hu⟩ : ∃ u, l[k]? = some u := ⟨_, List.getElem?_eq_getElem (by rw [← HLN.out]; exact hkl)⟩
    have HU := Lib.hid hu
    have HO := hl.out u (List.mem_of_getElem? hu)
    obtain ⟨o1, o2, o3, o4, o5⟩ := HO
    obtain ⟨t0, t1⟩ := kB.out u o1
    have kLu := Lib.hid (fun (W : World) => kL.out W { u with at_ := A })
    rw [lastsP_time c.p u A u.fin] at kLu
    obtain ⟨T, hT⟩ : ∃ T, lastsP c.p u = T := ⟨_, rfl⟩
    rw [hT] at kLu t0 t1
    have HT := Lib.hid hT
    have HO1 := Lib.hid o1
    have HO2 := Lib.hid o2
    have HO3 := Lib.hid o3
    clear kM kL kP kB hu o1 o2 o3 o4 o5 hT hA hk h0
    refine (kP1.out _).mono ?_
    rintro e w' ⟨rfl, hM⟩
    replace hK := hK.same hM
    clear hM
    go_wp2_with (first
      | ((with_reducible refine wl_at (o := ⟨some 52, _, _, _, _, _⟩) ?_); go_must (refine wl_ixK (i := k) (u := u) hK rfl rfl rfl rfl moveTy.und moveTy.size (hu := HU) (h := ?_); intro b52 k52 hat52))
      | ((with_reducible refine wl_at (o := ⟨none, .store 41 _ (.tmp 53), _, _, _, _⟩) ?_)
         go_must (refine wl_storePK (n := 11) (Move.cells u) (Tele.cells ⟨1, r.i, r.epoch, r.num + 1, u, poseO, 0⟩) hK rfl rfl rfl rfl (aggS (by decide)) (elMove.one _) (hk := by simp [Tele.cells, Move.cells, Pose.cells]) (hc := rfl) (h := ?_); clear hK; intro w' hK; simp only [List.set_cons_zero, List.set_cons_succ] at hK))
      | (go_at_call 16; go_must (refine (hK.quiet (kP2.out _)).mono ?_; clear hK; rintro e w' ⟨rfl, hK⟩))
      | ((with_reducible refine wl_at (o := ⟨none, .store 3 _ (.tmp 56), _, _, _, _⟩) ?_)
         go_must (refine wl_storeK (v := .int .i64 A) hK rfl rfl rfl rfl (sizT (by decide)) rfl (hk := by simp [Tele.cells, Move.cells, Pose.cells]) (h := ?_); clear hK; intro w' hK; replace hK : Know _ w' none' [rBlk b10 (Tele.cells ⟨1, r.i, r.epoch, r.num + 1, { u with at_ := A }, poseO, 0⟩) 43, rOw 41 elMove (.slice ad ln cap) l, rBlk b8 (Tele.cells ⟨0, 0, 0, 0, mvZ, poseO, 0⟩) 43, rBlk b4 c.cells 26] [rConf c, rBlk p (R18.cells c r) 70] := hK))
      | ((with_reducible refine wp_region_lastK (id := 8) hK [2] [rBlk b10 (Tele.cells ⟨1, r.i, r.epoch, r.num + 1, { u with at_ := A }, poseO, 0⟩) 43] (by kernel_rfl) (by kernel_rfl) (by simp) (by kernel_rfl) ?_); clear hK; intro w' hK; simp only [List.dropLast])
      | (with_reducible refine wpC_of ?_)
      | (with_reducible refine atEndC (hK.cls (by simp)) ?_)
      | ((with_reducible refine wpC_end' ?_); refine wpC_nil ⟨by kernel_rfl, stays_loadK rfl rfl rfl rfl (scalT (by decide)) rfl (rest := stays_nil), ?_⟩; show wpList _ _ _ [_] _ _)
      | ((with_reducible refine wl_at (o := ⟨some 64, _, _, _, _, _⟩) ?_); go_must (refine wl_loadPK (Move.cells { u with at_ := A }) hK rfl rfl rfl (aggT (by decide)) (h := ?_)))
      | (go_at_call 19; go_must (refine (hK.quiet (kLu.out _)).mono ?_; clear hK; rintro e w' ⟨rfl, hK⟩))
      | ((with_reducible refine wl_at (o := ⟨none, .store 3 _ (.tmp 66), _, _, _, _⟩) ?_)
         go_must (refine wl_storeK (v := .int .i64 (A + T)) hK rfl rfl rfl rfl (sizT (by decide)) rfl (hk := by simp [Tele.cells, Move.cells, Pose.cells]) (h := ?_); clear hK; intro w' hK; replace hK : Know _ w' none' [rBlk b10 (Tele.cells ⟨1, r.i, r.epoch, r.num + 1, { u with at_ := A, fin := A + T }, poseO, 0⟩) 43, rOw 41 elMove (.slice ad ln cap) l, rBlk b8 (Tele.cells ⟨0, 0, 0, 0, mvZ, poseO, 0⟩) 43, rBlk b4 c.cells 26] [rConf c, rBlk p (R18.cells c r) 70] := hK))
      | ((with_reducible refine wl_at (o := ⟨none, .store 43 _ _, _, _, _, _⟩) ?_)
         go_must (refine wl_storeWK (vs := Tele.cells ⟨1, r.i, r.epoch, r.num + 1, { u with at_ := A, fin := A + T }, poseO, 0⟩) hK rfl rfl rfl rfl (aggS (by decide)) (elTele.one _) (h := ?_); clear hK; intro w' hK; simp only [List.set_cons_zero, List.set_cons_succ] at hK))
      | go_big_skip
      | go_big_skip
      | ((with_reducible refine wl_at (o := ⟨_, .load _ _, _, _, _, _⟩) ?_)
         first
           | refine wl_loadK hK rfl rfl rfl (scalT (by decide)) (h := ?_)
           | refine wl_loadSK hK rfl rfl rfl (aggT (by decide)) (h := ?_)
           | refine wl_loadA0 rfl rfl rfl (scalT (by decide)) (h := ?_)
           | refine wl_loadA rfl rfl rfl (scalT (by decide)) (h := ?_)
           | refine wl_loadSA rfl rfl rfl (aggT (by decide)) (h := ?_))
      | (with_reducible refine atEnd_mk (by kernel_rfl) ?_))
    refine bodyPost_ret (res_cellS rfl _ rfl (aggT (by decide)) rfl (hK.blk (b := b8) (cs := Tele.cells ⟨1, r.i, r.epoch, r.num + 1, { u with at_ := A, fin := A + T }, poseO, 0⟩)).at0) rfl ⟨_, rfl, ⟨?_, ?_, ?_, by simp only []; omega, ?_⟩, hK.mod⟩
    · rw [legalP_time]; exact HO1.out
    · exact HO2.out
    · exact HO3.out.imp id .inl
    · simp only []; rw [lastsP_time, HT.out]
end Go.Proofs.YtcjpnlplibaffaaGreatDoor
