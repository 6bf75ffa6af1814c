/- Robots: what one answers; a tick. -/
import Derived.Test.YtcjpnlplibaffaaDoorRb2Q
set_option linter.all false
namespace Go.Proofs.YtcjpnlplibaffaaDoor
open Go Go.Sk Go.RowKit
set_option maxRecDepth 100000

def moveZ : List Value := [.int .i64 0, .int .i64 0, .int .i64 0, .int .i64 0, .int .i64 0, .bool false, .int .i64 0, .int .i64 0, .bool false, .int .i64 0, .int .i64 0]
def poseZ3 : List Value := [.int .i64 0, .int .i64 0, .bool false]
theorem move_one (m : Go.Sk.Move) : ∀ v ∈ m.cells, v.oneCell' = true := ofKinds_one moveKs _ m.ks
theorem pose_one (p : Pose) : ∀ v ∈ p.cells, v.oneCell' = true := ofKinds_one Go.Sk.poseKs _ p.ks
theorem Has.robK {c : ConfP} {i : Int} {p : Nat} {r : RM} {w : World} (h : Has w (rROB c i p r)) : ∃ gp kp up, Know w w none' [] (rRb c i p gp kp up r) := by
  obtain ⟨gp, kp, up, h⟩ := Has.rob h
  exact ⟨gp, kp, up, Know.start w h⟩

set_option maxHeartbeats 1000000 in
theorem rb_pose {c : ConfP} {i : Int} {p : Nat} {r : RM} {w : World} (h : Has w (rROB c i p r)) : Calls Tryd.prog 14 #[.pointer (some ⟨p, 0, none⟩)] w (Ret (.agg r.pose.cells.toArray) w) := by
  obtain ⟨gp, kp, up, hK⟩ := Has.robK h
  clear h
  simp only [rRb, rbCells] at hK
  go_enter Tryd.func14, Tryd.ntmps14
  go_wp2_with (first
    | ((with_reducible refine wl_at (o := ⟨some 2, .alloc _, _, _, _, _⟩) ?_)
       go_must (refine wl_allocK (z := .agg (poseZ3).toArray) (zs := poseZ3) hK rfl rfl (by kernel_rfl) rfl ?_; clear hK; intro w2 b2 hK))
    | ((with_reducible refine wl_at (o := ⟨none, .store 36 _ _, _, _, _, _⟩) ?_)
       go_must (refine wl_storeWK (vs := Pose.cells r.pose) hK rfl rfl rfl rfl (aggS (by decide)) (pose_one _) (h := ?_); clear hK; intro w' hK; simp only [List.set_cons_zero, List.set_cons_succ] at hK))
    | ((with_reducible refine wl_at (o := ⟨some 9, _, _, _, _, _⟩) ?_); go_must (refine wl_loadPK (Pose.cells r.pose) hK rfl rfl rfl (aggT (by decide)) (h := ?_)))
    | go_big_skip
    | go_big_skip
    | ((with_reducible refine wl_at (o := ⟨_, .load _ _, _, _, _, _⟩) ?_)
       first
         | refine wl_loadK hK rfl rfl rfl (scalT (by decide)) (h := ?_)
         | refine wl_loadSK hK rfl rfl rfl (aggT (by decide)) (h := ?_)
         | refine wl_loadA0 rfl rfl rfl (scalT (by decide)) (h := ?_)
         | refine wl_loadA rfl rfl rfl (scalT (by decide)) (h := ?_)
         | refine wl_loadSA rfl rfl rfl (aggT (by decide)) (h := ?_))
    | (with_reducible refine atEnd_mk (by kernel_rfl) ?_))
  exact bodyPost_ret (res_cellS rfl _ rfl (aggT (by decide)) rfl (hK.blk (b := b2) (cs := Pose.cells r.pose)).at0) rfl ⟨rfl, hK.mod⟩
set_option maxHeartbeats 1000000 in
theorem rb_epoch {c : ConfP} {i : Int} {p : Nat} {r : RM} {w : World} (h : Has w (rROB c i p r)) : Calls Tryd.prog 10 #[.pointer (some ⟨p, 0, none⟩)] w (Ret (.int .i64 r.epoch) w) := by
  obtain ⟨gp, kp, up, hK⟩ := Has.robK h
  clear h
  simp only [rRb, rbCells] at hK
  go_enter Tryd.func10, Tryd.ntmps10
  go_wp2_with (first
    | go_big_skip
    | go_big_skip
    | ((with_reducible refine wl_at (o := ⟨_, .load _ _, _, _, _, _⟩) ?_)
       first
         | refine wl_loadK hK rfl rfl rfl (scalT (by decide)) (h := ?_)
         | refine wl_loadSK hK rfl rfl rfl (aggT (by decide)) (h := ?_)
         | refine wl_loadA0 rfl rfl rfl (scalT (by decide)) (h := ?_)
         | refine wl_loadA rfl rfl rfl (scalT (by decide)) (h := ?_)
         | refine wl_loadSA rfl rfl rfl (aggT (by decide)) (h := ?_))
    | (with_reducible refine atEnd_mk (by kernel_rfl) ?_))
  go_ret
  exact ⟨rfl, hK.mod⟩
set_option maxHeartbeats 1000000 in
theorem rb_now {c : ConfP} {i : Int} {p : Nat} {r : RM} {w : World} (h : Has w (rROB c i p r)) : Calls Tryd.prog 9 #[.pointer (some ⟨p, 0, none⟩)] w (Ret (.tuple #[.agg r.now.cells.toArray, .bool r.under.isSome]) w) := by
  obtain ⟨gp, kp, up, hK⟩ := Has.robK h
  clear h
  obtain ⟨pose, load, epoch, num, under, stopping, delay⟩ := r
  cases under with
  | none =>
    simp only [rRb, rbCells, underV, underRes] at hK
    go_enter Tryd.func9, Tryd.ntmps9
    go_wp2_with (first
      | ((with_reducible refine wl_at (o := ⟨some 2, .alloc _, _, _, _, _⟩) ?_)
         go_must (refine wl_allocK (z := .agg (moveZ).toArray) (zs := moveZ) hK rfl rfl (by kernel_rfl) rfl ?_; clear hK; intro w2 b2 hK))
      | ((with_reducible refine wl_at (o := ⟨none, .store 38 _ _, _, _, _, _⟩) ?_)
         go_must (refine wl_storeWK (vs := Go.Sk.Move.cells mvZ) hK rfl rfl rfl rfl (aggS (by decide)) (move_one _) (h := ?_); clear hK; intro w' hK; simp only [List.set_cons_zero, List.set_cons_succ] at hK))
      | go_big_skip
      | go_big_skip
      | ((with_reducible refine wl_at (o := ⟨_, .load _ _, _, _, _, _⟩) ?_)
         first
           | refine wl_loadK hK rfl rfl rfl (scalT (by decide)) (h := ?_)
           | refine wl_loadSK hK rfl rfl rfl (aggT (by decide)) (h := ?_)
           | refine wl_loadA0 rfl rfl rfl (scalT (by decide)) (h := ?_)
           | refine wl_loadA rfl rfl rfl (scalT (by decide)) (h := ?_)
           | refine wl_loadSA rfl rfl rfl (aggT (by decide)) (h := ?_))
      | (with_reducible refine atEnd_mk (by kernel_rfl) ?_))
    exact bodyPost_ret (res_cellS_tmp rfl _ rfl (aggT (by decide)) rfl (hK.blk (b := b2) (cs := Go.Sk.Move.cells mvZ)).at0) rfl ⟨rfl, hK.mod⟩
  | some u =>
    simp only [rRb, rbCells, underV, underRes, goCells] at hK
    go_enter Tryd.func9, Tryd.ntmps9
    go_wp2_with (first
      | ((with_reducible refine wl_at (o := ⟨some 2, .alloc _, _, _, _, _⟩) ?_)
         go_must (refine wl_allocK (z := .agg (moveZ).toArray) (zs := moveZ) hK rfl rfl (by kernel_rfl) rfl ?_; clear hK; intro w2 b2 hK))
      | ((with_reducible refine wl_at (o := ⟨none, .store 38 _ _, _, _, _, _⟩) ?_)
         go_must (refine wl_storeWK (vs := Go.Sk.Move.cells u.move) hK rfl rfl rfl rfl (aggS (by decide)) (move_one _) (h := ?_); clear hK; intro w' hK; simp only [List.set_cons_zero, List.set_cons_succ] at hK))
      | ((with_reducible refine wl_at (o := ⟨some 20, _, _, _, _, _⟩) ?_); go_must (refine wl_loadPK (Go.Sk.Move.cells u.move) hK rfl rfl rfl (aggT (by decide)) (h := ?_)))
      | go_big_skip
      | go_big_skip
      | ((with_reducible refine wl_at (o := ⟨_, .load _ _, _, _, _, _⟩) ?_)
         first
           | refine wl_loadK hK rfl rfl rfl (scalT (by decide)) (h := ?_)
           | refine wl_loadSK hK rfl rfl rfl (aggT (by decide)) (h := ?_)
           | refine wl_loadA0 rfl rfl rfl (scalT (by decide)) (h := ?_)
           | refine wl_loadA rfl rfl rfl (scalT (by decide)) (h := ?_)
           | refine wl_loadSA rfl rfl rfl (aggT (by decide)) (h := ?_))
      | (with_reducible refine atEnd_mk (by kernel_rfl) ?_))
    exact bodyPost_ret (res_cellS_tmp rfl _ rfl (aggT (by decide)) rfl (hK.blk (b := b2) (cs := Go.Sk.Move.cells u.move)).at0) rfl ⟨rfl, hK.mod⟩

/-! what it tells -/
abbrev elTele : El Tele := ⟨Tele.cells, 19, fun _ => rfl, fun x v hv => ofKinds_one teleKs _ x.ks v hv⟩
theorem teleTy : SliceTy Tryd.prog 22 40 elTele.sz 152 [.int .i64 0, .int .i64 0, .int .i64 0, .int .i64 0, .int .i64 0, .int .i64 0, .int .i64 0, .int .i64 0, .int .i64 0, .bool false, .int .i64 0, .int .i64 0, .bool false, .int .i64 0, .int .i64 0, .int .i64 0, .int .i64 0, .bool false, .int .i64 0] :=
  SliceTy.mk' (z := .agg #[.int .i64 0, .int .i64 0, .int .i64 0, .int .i64 0, .int .i64 0, .int .i64 0, .int .i64 0, .int .i64 0, .int .i64 0, .bool false, .int .i64 0, .int .i64 0, .bool false, .int .i64 0, .int .i64 0, .int .i64 0, .int .i64 0, .bool false, .int .i64 0]) (by kernel_rfl) (by kernel_rfl) rfl rfl
set_option maxHeartbeats 1000000 in
theorem rb_tell {c : ConfP} {i : Int} {p : Nat} {r : RM} {w : World} (h : Has w (rROB c i p r)) : Calls Tryd.prog 24 #[.pointer (some ⟨p, 0, none⟩)] w fun e w' =>
    ∃ ad, e = .returned (.slice ad 1 1) ∧ Turn (rOw 40 elTele (.slice ad 1 1) [r.tell i]) w w' none' := by
  obtain ⟨gp, kp, up, hK⟩ := Has.robK h
  clear h
  obtain ⟨t, ht⟩ : ∃ t, t = r.tell i := ⟨_, rfl⟩
  rw [← ht]
  have HT := Lib.hid ht
  unfold RM.tell at ht
  simp only [rRb, rbCells] at hK
  by_cases h0 : r.num = 0
  · have d0 : decide (r.num = 0) = true := decide_eq_true h0
    have d0' : (r.num == 0) = true := beq_iff_eq.2 h0
    by_cases h1 : 0 < r.epoch
    · have d1 : decide (0 < r.epoch) = true := decide_eq_true h1
      rw [if_pos ⟨h0, h1⟩] at ht
      clear HT h0
      subst ht
      go_enter Tryd.func24, Tryd.ntmps24
      go_wp2_with (first
        | ((with_reducible refine wl_at (o := ⟨some 28, _, _, _, _, _⟩) ?_); go_must (refine wl_loadPK [.int .i64 r.pose.at_.x, .int .i64 r.pose.at_.y, .bool r.pose.down] hK rfl rfl rfl (aggT (by decide)) (h := ?_)))
        | ((with_reducible refine wl_at (o := ⟨some 34, _, _, _, _, _⟩) ?_)
           go_must (refine wl_buildK 40 elTele [(⟨4, i, r.epoch, 0, mvZ, r.pose, r.load⟩ : Tele)] hK rfl rfl (fun W => by kernel_rfl) rfl (by decide) ?_; clear hK; intro ad w34 hK))
        | ((with_reducible refine wp_region_textK (id := 4) hK (by kernel_rfl) (by kernel_rfl) ?_); clear hK; intro w' hK)
        | ((with_reducible refine wp_region_textK (id := 5) hK (by kernel_rfl) (by kernel_rfl) ?_); clear hK; intro w' hK)
        | go_big_skip
        | go_big_skip
        | ((with_reducible refine wl_at (o := ⟨_, .load _ _, _, _, _, _⟩) ?_)
           first
             | refine wl_loadK hK rfl rfl rfl (scalT (by decide)) (h := ?_)
             | refine wl_loadSK hK rfl rfl rfl (aggT (by decide)) (h := ?_)
             | refine wl_loadA0 rfl rfl rfl (scalT (by decide)) (h := ?_)
             | refine wl_loadA rfl rfl rfl (scalT (by decide)) (h := ?_)
             | refine wl_loadSA rfl rfl rfl (aggT (by decide)) (h := ?_))
        | (with_reducible refine atEnd_mk (by kernel_rfl) ?_))
      go_ret
      exact ⟨ad, rfl, hK.turn⟩
    · have d1 : decide (0 < r.epoch) = false := decide_eq_false h1
      rw [if_neg (fun e => h1 e.2)] at ht
      clear HT h0
      subst ht
      go_enter Tryd.func24, Tryd.ntmps24
      go_wp2_with (first
        | ((with_reducible refine wl_at (o := ⟨some 48, _, _, _, _, _⟩) ?_)
           go_must (refine wl_buildK 40 elTele [(⟨3, i, r.epoch, r.num, mvZ, poseO, 0⟩ : Tele)] hK rfl rfl (fun W => by kernel_rfl) rfl (by decide) ?_; clear hK; intro ad w48 hK))
        | ((with_reducible refine wp_region_textK (id := 4) hK (by kernel_rfl) (by kernel_rfl) ?_); clear hK; intro w' hK)
        | ((with_reducible refine wp_region_textK (id := 5) hK (by kernel_rfl) (by kernel_rfl) ?_); clear hK; intro w' hK)
        | go_big_skip
        | go_big_skip
        | ((with_reducible refine wl_at (o := ⟨_, .load _ _, _, _, _, _⟩) ?_)
           first
             | refine wl_loadK hK rfl rfl rfl (scalT (by decide)) (h := ?_)
             | refine wl_loadSK hK rfl rfl rfl (aggT (by decide)) (h := ?_)
             | refine wl_loadA0 rfl rfl rfl (scalT (by decide)) (h := ?_)
             | refine wl_loadA rfl rfl rfl (scalT (by decide)) (h := ?_)
             | refine wl_loadSA rfl rfl rfl (aggT (by decide)) (h := ?_))
        | (with_reducible refine atEnd_mk (by kernel_rfl) ?_))
      go_ret
      exact ⟨ad, rfl, hK.turn⟩
  · have d0 : decide (r.num = 0) = false := decide_eq_false h0
    have d0' : (r.num == 0) = false := beq_eq_false_iff_ne.2 h0
    rw [if_neg (fun e => h0 e.1)] at ht
    clear HT h0
    subst ht
    go_enter Tryd.func24, Tryd.ntmps24
    go_wp2_with (first
      | ((with_reducible refine wl_at (o := ⟨some 48, _, _, _, _, _⟩) ?_)
         go_must (refine wl_buildK 40 elTele [(⟨3, i, r.epoch, r.num, mvZ, poseO, 0⟩ : Tele)] hK rfl rfl (fun W => by kernel_rfl) rfl (by decide) ?_; clear hK; intro ad w48 hK))
      | ((with_reducible refine wp_region_textK (id := 4) hK (by kernel_rfl) (by kernel_rfl) ?_); clear hK; intro w' hK)
      | ((with_reducible refine wp_region_textK (id := 5) hK (by kernel_rfl) (by kernel_rfl) ?_); clear hK; intro w' hK)
      | go_big_skip
      | go_big_skip
      | ((with_reducible refine wl_at (o := ⟨_, .load _ _, _, _, _, _⟩) ?_)
         first
           | refine wl_loadK hK rfl rfl rfl (scalT (by decide)) (h := ?_)
           | refine wl_loadSK hK rfl rfl rfl (aggT (by decide)) (h := ?_)
           | refine wl_loadA0 rfl rfl rfl (scalT (by decide)) (h := ?_)
           | refine wl_loadA rfl rfl rfl (scalT (by decide)) (h := ?_)
           | refine wl_loadSA rfl rfl rfl (aggT (by decide)) (h := ?_))
      | (with_reducible refine atEnd_mk (by kernel_rfl) ?_))
    go_ret
    exact ⟨ad, rfl, hK.turn⟩
end Go.Proofs.YtcjpnlplibaffaaDoor
