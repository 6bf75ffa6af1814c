/- The reference's robot, told by the program's: Tell, Delay, Tick, goes, stops, Hear. -/
import Derived.Test.YtcjpnlplibaffaaGreatDoorRr1Q
import Derived.Test.YtcjpnlplibaffaaGreatDoorRbC
set_option linter.all false
namespace Go.Proofs.YtcjpnlplibaffaaGreatDoor
open Go Go.Sk Go.RowKit
set_option maxRecDepth 100000

/-- What is left in a robot that stands. -/
structure Junk where
  left : Int
  gone : Int
  wait : Int
  cut : Bool
def R18.of (r : RM) (x : Junk) : R18 := match r.under with
  | none => ⟨0, r.pose, r.load, r.epoch, r.num, false, mvZ, x.left, x.gone, x.wait, r.stopping, x.cut⟩
  | some g => ⟨0, r.pose, r.load, r.epoch, r.num, true, g.move, g.left, g.t, r.delay, r.stopping, g.cut⟩
@[irreducible] def rRF (c : ConfV) (q : Nat) (r : RM) : Res where
  p w S := ∃ x, (rBlk q ((R18.of r x).cells c) 70).p w S
  loc := by rintro w w' S ⟨x, h⟩ he; exact ⟨x, (rBlk q ((R18.of r x).cells c) 70).loc h he⟩
  lt := by rintro w S ⟨x, h⟩; exact (rBlk q ((R18.of r x).cells c) 70).lt h
theorem rRF_p {c : ConfV} {q : Nat} {r : RM} {w : World} {S : Nat → Prop} : (rRF c q r).p w S ↔ ∃ x, (rBlk q ((R18.of r x).cells c) 70).p w S := by unfold rRF; exact Iff.rfl
theorem rf_turn {c : ConfV} {q : Nat} {r : RM} {x : Junk} {w w' : World} {S : Nat → Prop} {L : List Res} (h : Know w w' S [rBlk q ((R18.of r x).cells c) 70] L) : Turn (rRF c q r) w w' S := by
  obtain ⟨h1, S', h2, h3⟩ := h.turn
  exact ⟨h1, S', rRF_p.2 ⟨x, h2⟩, h3⟩
theorem Know.rf {c : ConfV} {q : Nat} {r : RM} {w0 w : World} {S : Nat → Prop} {L : List Res} (h : Know w0 w S [rRF c q r] L) : ∃ x, Know w0 w S [rBlk q ((R18.of r x).cells c) 70] L := by
  obtain ⟨hm, U, ⟨S1, V, h1, h2, h3, h4⟩, h5, h6⟩ := h
  obtain ⟨x, k⟩ := rRF_p.1 h1
  exact ⟨x, hm, U, ⟨S1, V, k, h2, h3, h4⟩, h5, h6⟩
theorem Has.rf {c : ConfV} {q : Nat} {r : RM} {w : World} (h : Has w (rRF c q r)) : ∃ x, Has w (rBlk q ((R18.of r x).cells c) 70) := by
  obtain ⟨S, h⟩ := h
  obtain ⟨x, h⟩ := rRF_p.1 h
  exact ⟨x, S, h⟩
def R18.tell (v : R18) : Tele := if v.num = 0 ∧ 0 < v.epoch then ⟨4, v.i, v.epoch, 0, mvZ, v.pose, v.load⟩ else ⟨3, v.i, v.epoch, v.num, mvZ, poseO, 0⟩
theorem of_tell (r : RM) (x : Junk) : (R18.of r x).tell = r.tell 0 := by
  unfold R18.of R18.tell RM.tell
  cases r.under <;> rfl

set_option maxHeartbeats 1000000 in
theorem r18_tell {c : ConfV} {v : R18} {q : Nat} {w : World} (h : Has w (rBlk q (v.cells c) 70)) : Calls Tryz.prog 50 #[.pointer (some ⟨q, 0, none⟩)] w fun e w' =>
    ∃ ad, e = .returned (.slice ad 1 1) ∧ Turn (rOw 43 elTele (.slice ad 1 1) [v.tell]) w w' none' := by
  have hK : Know w w none' [] [rBlk q (v.cells c) 70] := Know.start (L := [rBlk q (v.cells c) 70]) w (by simpa using h)
  clear h
  obtain ⟨t, ht⟩ : ∃ t, t = v.tell := ⟨_, rfl⟩
  rw [← ht]
  unfold R18.tell at ht
  by_cases h0 : v.num = 0
  · have d0 : decide (v.num = 0) = true := decide_eq_true h0
    have d0' : (v.num == 0) = true := beq_iff_eq.2 h0
    by_cases h1 : 0 < v.epoch
    · have d1 : decide (0 < v.epoch) = true := decide_eq_true h1
      rw [if_pos ⟨h0, h1⟩] at ht
      clear h0
      skip
      subst ht
      go_enter Tryz.func50, Tryz.ntmps50
      go_wp2_with (first
        | ((with_reducible refine wl_at (o := ⟨some 26, _, _, _, _, _⟩) ?_); go_must (refine wl_loadPK (Pose.cells v.pose) hK rfl rfl rfl (aggT (by decide)) (h := ?_)))
        | ((with_reducible refine wl_at (o := ⟨some 31, _, _, _, _, _⟩) ?_); go_must (refine wl_pure (v := .agg (Tele.cells ⟨4, v.i, v.epoch, 0, mvZ, v.pose, v.load⟩).toArray) rfl (fun W => by kernel_rfl) ?_))
        | ((with_reducible refine wl_at (o := ⟨some 45, _, _, _, _, _⟩) ?_); go_must (refine wl_pure (v := .agg (Tele.cells ⟨3, v.i, v.epoch, v.num, mvZ, poseO, 0⟩).toArray) rfl (fun W => by kernel_rfl) ?_))
        | ((with_reducible refine wl_at (o := ⟨some 32, _, _, _, _, _⟩) ?_); go_must (refine wl_buildK 43 elTele [(⟨4, v.i, v.epoch, 0, mvZ, v.pose, v.load⟩ : Tele)] hK rfl rfl (fun W => by kernel_rfl) rfl (by decide) ?_; clear hK; intro ad w32 hK))
        | ((with_reducible refine wp_region_textK (id := 2) hK (by kernel_rfl) (by kernel_rfl) ?_); clear hK; intro w' hK)
        | ((with_reducible refine wp_region_textK (id := 3) hK (by kernel_rfl) (by kernel_rfl) ?_); clear hK; intro w' hK)
        | go_big_skip
        | ((with_reducible refine wl_at (o := ⟨_, .load _ _, _, _, _, _⟩) ?_)
           first | refine wl_loadK hK rfl rfl rfl (scalT (by decide)) (h := ?_) | refine wl_loadSK hK rfl rfl rfl (aggT (by decide)) (h := ?_))
        | (with_reducible refine atEnd_mk (by kernel_rfl) ?_))
      go_ret
      exact ⟨ad, rfl, hK.turn⟩
    · have d1 : decide (0 < v.epoch) = false := decide_eq_false h1
      rw [if_neg (fun e => h1 e.2)] at ht
      clear h0
      skip
      subst ht
      go_enter Tryz.func50, Tryz.ntmps50
      go_wp2_with (first
        | ((with_reducible refine wl_at (o := ⟨some 26, _, _, _, _, _⟩) ?_); go_must (refine wl_loadPK (Pose.cells v.pose) hK rfl rfl rfl (aggT (by decide)) (h := ?_)))
        | ((with_reducible refine wl_at (o := ⟨some 31, _, _, _, _, _⟩) ?_); go_must (refine wl_pure (v := .agg (Tele.cells ⟨4, v.i, v.epoch, 0, mvZ, v.pose, v.load⟩).toArray) rfl (fun W => by kernel_rfl) ?_))
        | ((with_reducible refine wl_at (o := ⟨some 45, _, _, _, _, _⟩) ?_); go_must (refine wl_pure (v := .agg (Tele.cells ⟨3, v.i, v.epoch, v.num, mvZ, poseO, 0⟩).toArray) rfl (fun W => by kernel_rfl) ?_))
        | ((with_reducible refine wl_at (o := ⟨some 46, _, _, _, _, _⟩) ?_); go_must (refine wl_buildK 43 elTele [(⟨3, v.i, v.epoch, v.num, mvZ, poseO, 0⟩ : Tele)] hK rfl rfl (fun W => by kernel_rfl) rfl (by decide) ?_; clear hK; intro ad w46 hK))
        | ((with_reducible refine wp_region_textK (id := 2) hK (by kernel_rfl) (by kernel_rfl) ?_); clear hK; intro w' hK)
        | ((with_reducible refine wp_region_textK (id := 3) hK (by kernel_rfl) (by kernel_rfl) ?_); clear hK; intro w' hK)
        | go_big_skip
        | ((with_reducible refine wl_at (o := ⟨_, .load _ _, _, _, _, _⟩) ?_)
           first | refine wl_loadK hK rfl rfl rfl (scalT (by decide)) (h := ?_) | refine wl_loadSK hK rfl rfl rfl (aggT (by decide)) (h := ?_))
        | (with_reducible refine atEnd_mk (by kernel_rfl) ?_))
      go_ret
      exact ⟨ad, rfl, hK.turn⟩
  · have d0 : decide (v.num = 0) = false := decide_eq_false h0
    have d0' : (v.num == 0) = false := beq_eq_false_iff_ne.2 h0
    rw [if_neg (fun e => h0 e.1)] at ht
    clear h0
    skip
    subst ht
    go_enter Tryz.func50, Tryz.ntmps50
    go_wp2_with (first
      | ((with_reducible refine wl_at (o := ⟨some 26, _, _, _, _, _⟩) ?_); go_must (refine wl_loadPK (Pose.cells v.pose) hK rfl rfl rfl (aggT (by decide)) (h := ?_)))
      | ((with_reducible refine wl_at (o := ⟨some 31, _, _, _, _, _⟩) ?_); go_must (refine wl_pure (v := .agg (Tele.cells ⟨4, v.i, v.epoch, 0, mvZ, v.pose, v.load⟩).toArray) rfl (fun W => by kernel_rfl) ?_))
      | ((with_reducible refine wl_at (o := ⟨some 45, _, _, _, _, _⟩) ?_); go_must (refine wl_pure (v := .agg (Tele.cells ⟨3, v.i, v.epoch, v.num, mvZ, poseO, 0⟩).toArray) rfl (fun W => by kernel_rfl) ?_))
      | ((with_reducible refine wl_at (o := ⟨some 46, _, _, _, _, _⟩) ?_); go_must (refine wl_buildK 43 elTele [(⟨3, v.i, v.epoch, v.num, mvZ, poseO, 0⟩ : Tele)] hK rfl rfl (fun W => by kernel_rfl) rfl (by decide) ?_; clear hK; intro ad w46 hK))
      | ((with_reducible refine wp_region_textK (id := 2) hK (by kernel_rfl) (by kernel_rfl) ?_); clear hK; intro w' hK)
      | ((with_reducible refine wp_region_textK (id := 3) hK (by kernel_rfl) (by kernel_rfl) ?_); clear hK; intro w' hK)
      | go_big_skip
      | ((with_reducible refine wl_at (o := ⟨_, .load _ _, _, _, _, _⟩) ?_)
         first | refine wl_loadK hK rfl rfl rfl (scalT (by decide)) (h := ?_) | refine wl_loadSK hK rfl rfl rfl (aggT (by decide)) (h := ?_))
      | (with_reducible refine atEnd_mk (by kernel_rfl) ?_))
    go_ret
    exact ⟨ad, rfl, hK.turn⟩
theorem rf_tell {c : ConfV} {r : RM} {q : Nat} {w : World} (h : Has w (rRF c q r)) : Calls Tryz.prog 50 #[.pointer (some ⟨q, 0, none⟩)] w fun e w' =>
    ∃ ad, e = .returned (.slice ad 1 1) ∧ Turn (rOw 43 elTele (.slice ad 1 1) [r.tell 0]) w w' none' := by
  obtain ⟨x, h⟩ := Has.rf h
  rw [← of_tell r x]
  exact r18_tell h

set_option maxHeartbeats 1000000 in
theorem rf_delay {c : ConfV} {d : Int} {q : Nat} {r : RM} {n : Int} {w : World} {S : Nat → Prop} (hok : RMOk c.p r n) (h : (rRF c q r).p w S) : Calls Tryz.prog 52 #[.pointer (some ⟨q, 0, none⟩), .int .i64 d] w fun e w' => e = .returned (.tuple #[]) ∧ Turn (rRF c q (r.hold d)) w w' S := by
  obtain ⟨x, hx⟩ := rRF_p.1 h
  have hd := hok.delay
  clear hok h
  have HE := Lib.hid (fun (W : World) (x : Junk) (hK : Know w W S [rBlk q ((R18.of (r.hold d) x).cells c) 70] []) => rf_turn hK)
  obtain ⟨pose, load, epoch, num, under, stopping, delay⟩ := r
  obtain ⟨hd0, hd1⟩ := hd
  simp only at hd0 hd1
  unfold RM.hold at HE ⊢
  cases under with
  | none =>
    have hK : Know w w S [rBlk q (R18.cells c ⟨0, pose, load, epoch, num, false, mvZ, x.left, x.gone, x.wait, stopping, x.cut⟩) 70] [] := Know.start1 hx (by simp)
    clear hx
    simp only [Option.isSome_none, Bool.false_eq_true, false_and, if_false] at HE ⊢
    go_enter Tryz.func52, Tryz.ntmps52
    go_wp2_with (first
      | go_big_skip
      | ((with_reducible refine wl_at (o := ⟨_, .load _ _, _, _, _, _⟩) ?_)
         first | refine wl_loadK hK rfl rfl rfl (scalT (by decide)) (h := ?_) | refine wl_loadSK hK rfl rfl rfl (aggT (by decide)) (h := ?_))
      | (with_reducible refine atEnd_mk (by kernel_rfl) ?_))
    first | (refine bodyPost_ret (results_none rfl _ _ _) rfl ?_) | (refine bodyPost_end (results_none rfl _ _ _) rfl ?_)
    exact ⟨rfl, HE.out _ x hK⟩
  | some g =>
    have hK : Know w w S [rBlk q (R18.cells c ⟨0, pose, load, epoch, num, true, g.move, g.left, g.t, delay, stopping, g.cut⟩) 70] [] := Know.start1 hx (by simp)
    clear hx
    simp only [Option.isSome_some, true_and] at HE ⊢
    by_cases h0 : 0 < d
    · have d0 : decide (0 < d) = true := decide_eq_true h0
      simp only [h0, if_true] at HE ⊢
      go_enter Tryz.func52, Tryz.ntmps52
      go_wp2_with (first
        | ((with_reducible refine wl_at (o := ⟨none, .store 3 (.tmp 22) _, _, _, _, _⟩) ?_); go_must (refine wl_storeK (v := .int .i64 (min 1000000 (delay + min d 1000000))) hK rfl rfl rfl rfl (sizT (by decide)) rfl (hk := by simp [R18.cells, ConfV.cells, Pose.cells, Go.Sk.Move.cells]) (h := ?_); clear hK; intro w' hK; replace hK : Know w w' S [rBlk q (R18.cells c ⟨0, pose, load, epoch, num, true, g.move, g.left, g.t, min 1000000 (delay + min d 1000000), stopping, g.cut⟩) 70] [] := hK))
        | ((with_reducible refine wl_at (o := ⟨_, .call { callee := .builtin .min, args := #[_, _], argTypes := _ }, _, _, _, _⟩) ?_); refine wl_min2 rfl rfl rfl rfl ?_)
        | ((with_reducible refine wl_at (o := ⟨_, .call { callee := .builtin .max, args := #[_, _], argTypes := _ }, _, _, _, _⟩) ?_); refine wl_max2 rfl rfl rfl rfl ?_)
        | ((with_reducible refine wl_at (o := ⟨_, .call { callee := .builtin .min, args := #[_, _, _], argTypes := _ }, _, _, _, _⟩) ?_); refine wl_min3 rfl rfl rfl rfl rfl ?_)
        | go_big_skip
        | ((with_reducible refine wl_at (o := ⟨_, .load _ _, _, _, _, _⟩) ?_)
           first | refine wl_loadK hK rfl rfl rfl (scalT (by decide)) (h := ?_) | refine wl_loadSK hK rfl rfl rfl (aggT (by decide)) (h := ?_))
        | (with_reducible refine atEnd_mk (by kernel_rfl) ?_))
      first | (refine bodyPost_ret (results_none rfl _ _ _) rfl ?_) | (refine bodyPost_end (results_none rfl _ _ _) rfl ?_)
      exact ⟨rfl, HE.out _ x hK⟩
    · have d0 : decide (0 < d) = false := decide_eq_false h0
      simp only [h0, if_false] at HE ⊢
      go_enter Tryz.func52, Tryz.ntmps52
      go_wp2_with (first
        | go_big_skip
        | ((with_reducible refine wl_at (o := ⟨_, .load _ _, _, _, _, _⟩) ?_)
           first | refine wl_loadK hK rfl rfl rfl (scalT (by decide)) (h := ?_) | refine wl_loadSK hK rfl rfl rfl (aggT (by decide)) (h := ?_))
        | (with_reducible refine atEnd_mk (by kernel_rfl) ?_))
      first | (refine bodyPost_ret (results_none rfl _ _ _) rfl ?_) | (refine bodyPost_end (results_none rfl _ _ _) rfl ?_)
      exact ⟨rfl, HE.out _ x hK⟩

set_option maxHeartbeats 4000000 in
theorem rf_tick {c : ConfV} {q : Nat} {r : RM} {n : Int} {w : World} {S : Nat → Prop} {v : RM × Go.Sk.Move × Int} (hok : RMOk c.p r n) (hn : n ≤ 1000000000) (hv : r.tick = v) (h : (rRF c q r).p w S) : Calls Tryz.prog 51 #[.pointer (some ⟨q, 0, none⟩)] w fun e w' =>
    e = .returned (.tuple #[.agg v.2.1.cells.toArray, .int .i64 v.2.2]) ∧ Turn (rRF c q v.1) w w' S := by
  obtain ⟨x, hx⟩ := rRF_p.1 h
  clear h
  have HE := Lib.hid (fun (W : World) (x : Junk) (hK : Know w W S [rBlk q ((R18.of v.1 x).cells c) 70] []) => rf_turn hK)
  obtain ⟨pose, load, epoch, num, under, stopping, delay⟩ := r
  obtain ⟨hnum0, hnum1⟩ : 0 ≤ num ∧ num ≤ n := hok.num
  obtain ⟨hde0, hde1⟩ : 0 ≤ delay ∧ delay ≤ 1000000 := hok.delay
  cases under with
  | none =>
    clear hok
    have hK : Know w w S [rBlk q (R18.cells c ⟨0, pose, load, epoch, num, false, mvZ, x.left, x.gone, x.wait, stopping, x.cut⟩) 70] [] := Know.start1 hx (by simp)
    clear hx
    simp only [RM.tick] at hv
    subst hv
    go_enter Tryz.func51, Tryz.ntmps51
    go_wp2_with (first
      | ((with_reducible refine wl_at (o := ⟨some 2, .alloc _, _, _, _, _⟩) ?_)
         go_must (refine wl_allocK (z := .agg (moveZ).toArray) (zs := moveZ) hK rfl rfl (by kernel_rfl) rfl ?_; clear hK; intro w2 b2 hK))
      | ((with_reducible refine wl_at (o := ⟨none, .store 41 (.tmp 2) _, _, _, _, _⟩) ?_); go_must (refine wl_storeWK (vs := Go.Sk.Move.cells mvZ) hK rfl rfl rfl rfl (aggS (by decide)) (move_one _) (h := ?_); clear hK; intro w' hK; simp only [List.set_cons_zero, List.set_cons_succ] at hK))
      | go_big_skip
      | ((with_reducible refine wl_at (o := ⟨_, .load _ _, _, _, _, _⟩) ?_)
         first | refine wl_loadK hK rfl rfl rfl (scalT (by decide)) (h := ?_) | refine wl_loadSK hK rfl rfl rfl (aggT (by decide)) (h := ?_))
      | (with_reducible refine atEnd_mk (by kernel_rfl) ?_))
    exact bodyPost_ret (res_cellS_tmp rfl _ rfl (aggT (by decide)) rfl (hK.blk (b := b2) (cs := Go.Sk.Move.cells mvZ)).at0) rfl ⟨rfl, HE.out _ x (hK.sub (.cons _ (.cons_cons _ .slnil)))⟩
  | some g =>
    obtain ⟨g0, g1, g2, g3, _⟩ := hok.going g rfl
    obtain ⟨mv, gt, gl, gc⟩ := g
    simp only at g0 g1 g2 g3
    clear hok
    have hK : Know w w S [rBlk q (R18.cells c ⟨0, pose, load, epoch, num, true, mv, gl, gt, delay, stopping, gc⟩) 70] [] := Know.start1 hx (by simp)
    clear hx
    simp only [RM.tick] at hv
    by_cases h1 : 0 < delay
    · rw [if_pos h1] at hv
      subst hv
      have d1 : decide (0 < delay) = true := decide_eq_true h1
      go_enter Tryz.func51, Tryz.ntmps51
      go_wp2_with (first
        | ((with_reducible refine wl_at (o := ⟨some 2, .alloc _, _, _, _, _⟩) ?_)
           go_must (refine wl_allocK (z := .agg (moveZ).toArray) (zs := moveZ) hK rfl rfl (by kernel_rfl) rfl ?_; clear hK; intro w2 b2 hK))
        | ((with_reducible refine wl_at (o := ⟨none, .store 41 (.tmp 2) _, _, _, _, _⟩) ?_); go_must (refine wl_storeWK (vs := Go.Sk.Move.cells mvZ) hK rfl rfl rfl rfl (aggS (by decide)) (move_one _) (h := ?_); clear hK; intro w' hK; simp only [List.set_cons_zero, List.set_cons_succ] at hK))
        | ((with_reducible refine wl_at (o := ⟨none, .store 3 (.tmp 22) _, _, _, _, _⟩) ?_); go_must (refine wl_storeK (v := .int .i64 (delay - 1)) hK rfl rfl rfl rfl (sizT (by decide)) rfl (hk := by simp [R18.cells, ConfV.cells, Pose.cells, Go.Sk.Move.cells]) (h := ?_); clear hK; intro w' hK; replace hK : Know w w' S [rBlk b2 moveZ 41, rBlk q (R18.cells c ⟨0, pose, load, epoch, num, true, mv, gl, gt, delay - 1, stopping, gc⟩) 70] [] := hK))
        | go_big_skip
        | ((with_reducible refine wl_at (o := ⟨_, .load _ _, _, _, _, _⟩) ?_)
           first | refine wl_loadK hK rfl rfl rfl (scalT (by decide)) (h := ?_) | refine wl_loadSK hK rfl rfl rfl (aggT (by decide)) (h := ?_))
        | (with_reducible refine atEnd_mk (by kernel_rfl) ?_))
      exact bodyPost_ret (res_cellS_tmp rfl _ rfl (aggT (by decide)) rfl (hK.blk (b := b2) (cs := Go.Sk.Move.cells mvZ)).at0) rfl ⟨rfl, HE.out _ x (hK.sub (.cons _ (.cons_cons _ .slnil)))⟩
    · rw [if_neg h1] at hv
      have d1 : decide (0 < delay) = false := decide_eq_false h1
      by_cases h2 : 0 < gl - 1
      · rw [if_pos h2] at hv
        subst hv
        have d2 : decide (0 < gl - 1) = true := decide_eq_true h2
        go_enter Tryz.func51, Tryz.ntmps51
        go_wp2_with (first
          | ((with_reducible refine wl_at (o := ⟨some 2, .alloc _, _, _, _, _⟩) ?_)
             go_must (refine wl_allocK (z := .agg (moveZ).toArray) (zs := moveZ) hK rfl rfl (by kernel_rfl) rfl ?_; clear hK; intro w2 b2 hK))
          | ((with_reducible refine wl_at (o := ⟨none, .store 41 (.tmp 2) _, _, _, _, _⟩) ?_); go_must (refine wl_storeWK (vs := Go.Sk.Move.cells mvZ) hK rfl rfl rfl rfl (aggS (by decide)) (move_one _) (h := ?_); clear hK; intro w' hK; simp only [List.set_cons_zero, List.set_cons_succ] at hK))
          | ((with_reducible refine wl_at (o := ⟨none, .store 3 (.tmp 30) _, _, _, _, _⟩) ?_); go_must (refine wl_storeK (v := .int .i64 (gl - 1)) hK rfl rfl rfl rfl (sizT (by decide)) rfl (hk := by simp [R18.cells, ConfV.cells, Pose.cells, Go.Sk.Move.cells]) (h := ?_); clear hK; intro w' hK; replace hK : Know w w' S [rBlk b2 moveZ 41, rBlk q (R18.cells c ⟨0, pose, load, epoch, num, true, mv, gl - 1, gt, delay, stopping, gc⟩) 70] [] := hK))
          | ((with_reducible refine wl_at (o := ⟨none, .store 3 (.tmp 37) _, _, _, _, _⟩) ?_); go_must (refine wl_storeK (v := .int .i64 (gt + 1)) hK rfl rfl rfl rfl (sizT (by decide)) rfl (hk := by simp [R18.cells, ConfV.cells, Pose.cells, Go.Sk.Move.cells]) (h := ?_); clear hK; intro w' hK; replace hK : Know w w' S [rBlk b2 moveZ 41, rBlk q (R18.cells c ⟨0, pose, load, epoch, num, true, mv, gl - 1, gt + 1, delay, stopping, gc⟩) 70] [] := hK))
          | go_big_skip
          | ((with_reducible refine wl_at (o := ⟨_, .load _ _, _, _, _, _⟩) ?_)
             first | refine wl_loadK hK rfl rfl rfl (scalT (by decide)) (h := ?_) | refine wl_loadSK hK rfl rfl rfl (aggT (by decide)) (h := ?_))
          | (with_reducible refine atEnd_mk (by kernel_rfl) ?_))
        exact bodyPost_ret (res_cellS_tmp rfl _ rfl (aggT (by decide)) rfl (hK.blk (b := b2) (cs := Go.Sk.Move.cells mvZ)).at0) rfl ⟨rfl, HE.out _ x (hK.sub (.cons _ (.cons_cons _ .slnil)))⟩
      · rw [if_neg h2] at hv
        have d2 : decide (0 < gl - 1) = false := decide_eq_false h2
        cases stopping
        · rw [if_neg (by decide)] at hv
          subst hv
          go_enter Tryz.func51, Tryz.ntmps51
          go_wp2_with (first
            | ((with_reducible refine wl_at (o := ⟨some 2, .alloc _, _, _, _, _⟩) ?_)
               go_must (refine wl_allocK (z := .agg (moveZ).toArray) (zs := moveZ) hK rfl rfl (by kernel_rfl) rfl ?_; clear hK; intro w2 b2 hK))
            | ((with_reducible refine wl_at (o := ⟨none, .store 41 (.tmp 2) _, _, _, _, _⟩) ?_); go_must (refine wl_storeWK (vs := Go.Sk.Move.cells mv) hK rfl rfl rfl rfl (aggS (by decide)) (move_one _) (h := ?_); clear hK; intro w' hK; simp only [List.set_cons_zero, List.set_cons_succ] at hK))
            | ((with_reducible refine wl_at (o := ⟨none, .store 3 (.tmp 30) _, _, _, _, _⟩) ?_); go_must (refine wl_storeK (v := .int .i64 (gl - 1)) hK rfl rfl rfl rfl (sizT (by decide)) rfl (hk := by simp [R18.cells, ConfV.cells, Pose.cells, Go.Sk.Move.cells]) (h := ?_); clear hK; intro w' hK; replace hK : Know w w' S [rBlk b2 moveZ 41, rBlk q (R18.cells c ⟨0, pose, load, epoch, num, true, mv, gl - 1, gt, delay, false, gc⟩) 70] [] := hK))
            | ((with_reducible refine wl_at (o := ⟨none, .store 3 (.tmp 37) _, _, _, _, _⟩) ?_); go_must (refine wl_storeK (v := .int .i64 (gt + 1)) hK rfl rfl rfl rfl (sizT (by decide)) rfl (hk := by simp [R18.cells, ConfV.cells, Pose.cells, Go.Sk.Move.cells]) (h := ?_); clear hK; intro w' hK; replace hK : Know w w' S [rBlk b2 moveZ 41, rBlk q (R18.cells c ⟨0, pose, load, epoch, num, true, mv, gl - 1, gt + 1, delay, false, gc⟩) 70] [] := hK))
            | ((with_reducible refine wl_at (o := ⟨some 47, .load _ _, _, _, _, _⟩) ?_); go_must (refine wl_loadPK (Go.Sk.Move.cells mv) hK rfl rfl rfl (aggT (by decide)) (h := ?_)))
            | ((with_reducible refine wl_at (o := ⟨some 4, .alloc _, _, _, _, _⟩) ?_)
               go_must (refine wl_allocK (z := .agg (moveZ).toArray) (zs := moveZ) hK rfl rfl (by kernel_rfl) rfl ?_; clear hK; intro w4 b4 hK))
            | ((with_reducible refine wl_at (o := ⟨none, .store 41 (.tmp 4) _, _, _, _, _⟩) ?_); go_must (refine wl_storeWK (vs := Go.Sk.Move.cells mv) hK rfl rfl rfl rfl (aggS (by decide)) (move_one _) (h := ?_); clear hK; intro w' hK; simp only [List.set_cons_zero, List.set_cons_succ] at hK))
            | ((with_reducible refine wl_at (o := ⟨some 50, .load _ _, _, _, _, _⟩) ?_); go_must (refine wl_loadPK (Pose.cells mv.dst) hK rfl rfl rfl (aggT (by decide)) (h := ?_)))
            | ((with_reducible refine wl_at (o := ⟨none, .store 39 (.tmp 52) _, _, _, _, _⟩) ?_); go_must (refine wl_storePK (n := 3) (Pose.cells mv.dst) (R18.cells c ⟨0, mv.dst, load, epoch, num, true, mv, gl - 1, gt + 1, delay, false, gc⟩) hK rfl rfl rfl rfl (aggS (by decide)) (pose_one _) (hk := by simp [R18.cells, ConfV.cells, Pose.cells, Go.Sk.Move.cells]) (hc := rfl) (h := ?_); clear hK; intro w' hK; replace hK : Know w w' S [rBlk b4 (Go.Sk.Move.cells mv) 41, rBlk b2 moveZ 41, rBlk q (R18.cells c ⟨0, mv.dst, load, epoch, num, true, mv, gl - 1, gt + 1, delay, false, gc⟩) 70] [] := hK))
            | ((with_reducible refine wl_at (o := ⟨none, .store 4 (.tmp 55) _, _, _, _, _⟩) ?_); go_must (refine wl_storeK (v := .bool false) hK rfl rfl rfl rfl (sizT (by decide)) rfl (hk := by simp [R18.cells, ConfV.cells, Pose.cells, Go.Sk.Move.cells]) (h := ?_); clear hK; intro w' hK; replace hK : Know w w' S [rBlk b4 (Go.Sk.Move.cells mv) 41, rBlk b2 moveZ 41, rBlk q (R18.cells c ⟨0, mv.dst, load, epoch, num, false, mv, gl - 1, gt + 1, delay, false, gc⟩) 70] [] := hK))
            | ((with_reducible refine wl_at (o := ⟨none, .store 41 (.tmp 59) _, _, _, _, _⟩) ?_); go_must (refine wl_storePK (n := 11) (Go.Sk.Move.cells mvZ) (R18.cells c ⟨0, mv.dst, load, epoch, num, false, mvZ, gl - 1, gt + 1, delay, false, gc⟩) hK rfl rfl rfl rfl (aggS (by decide)) (move_one _) (hk := by simp [R18.cells, ConfV.cells, Pose.cells, Go.Sk.Move.cells]) (hc := rfl) (h := ?_); clear hK; intro w' hK; replace hK : Know w w' S [rBlk b4 (Go.Sk.Move.cells mv) 41, rBlk b2 moveZ 41, rBlk q (R18.cells c ⟨0, mv.dst, load, epoch, num, false, mvZ, gl - 1, gt + 1, delay, false, gc⟩) 70] [] := hK))
            | ((with_reducible refine wl_at (o := ⟨none, .store 4 (.tmp 66) _, _, _, _, _⟩) ?_); go_must (refine wl_storeK (v := .bool false) hK rfl rfl rfl rfl (sizT (by decide)) rfl (hk := by simp [R18.cells, ConfV.cells, Pose.cells, Go.Sk.Move.cells]) (h := ?_); clear hK; intro w' hK; replace hK : Know w w' S [rBlk b4 (Go.Sk.Move.cells mv) 41, rBlk b2 moveZ 41, rBlk q (R18.cells c ⟨0, mv.dst, load, epoch, num, false, mvZ, gl - 1, gt + 1, delay, false, gc⟩) 70] [] := hK))
            | ((with_reducible refine wl_at (o := ⟨none, .store 3 (.tmp 74) _, _, _, _, _⟩) ?_); go_must (refine wl_storeK (v := .int .i64 (num + 1)) hK rfl rfl rfl rfl (sizT (by decide)) rfl (hk := by simp [R18.cells, ConfV.cells, Pose.cells, Go.Sk.Move.cells]) (h := ?_); clear hK; intro w' hK; replace hK : Know w w' S [rBlk b4 (Go.Sk.Move.cells mv) 41, rBlk b2 moveZ 41, rBlk q (R18.cells c ⟨0, mv.dst, load, epoch, num + 1, false, mvZ, gl - 1, gt + 1, delay, false, gc⟩) 70] [] := hK))
            | go_big_skip
            | ((with_reducible refine wl_at (o := ⟨_, .load _ _, _, _, _, _⟩) ?_)
               first | refine wl_loadK hK rfl rfl rfl (scalT (by decide)) (h := ?_) | refine wl_loadSK hK rfl rfl rfl (aggT (by decide)) (h := ?_))
            | (with_reducible refine atEnd_mk (by kernel_rfl) ?_))
          exact bodyPost_ret (res_cellS_tmp rfl _ rfl (aggT (by decide)) rfl (hK.blk (b := b2) (cs := Go.Sk.Move.cells mv)).at0) rfl ⟨rfl, HE.out _ ⟨gl - 1, gt + 1, delay, gc⟩ (hK.sub (.cons _ (.cons _ (.cons_cons _ .slnil))))⟩
        · rw [if_pos rfl] at hv
          subst hv
          go_enter Tryz.func51, Tryz.ntmps51
          go_wp2_with (first
            | ((with_reducible refine wl_at (o := ⟨some 2, .alloc _, _, _, _, _⟩) ?_)
               go_must (refine wl_allocK (z := .agg (moveZ).toArray) (zs := moveZ) hK rfl rfl (by kernel_rfl) rfl ?_; clear hK; intro w2 b2 hK))
            | ((with_reducible refine wl_at (o := ⟨none, .store 41 (.tmp 2) _, _, _, _, _⟩) ?_); go_must (refine wl_storeWK (vs := Go.Sk.Move.cells mv) hK rfl rfl rfl rfl (aggS (by decide)) (move_one _) (h := ?_); clear hK; intro w' hK; simp only [List.set_cons_zero, List.set_cons_succ] at hK))
            | ((with_reducible refine wl_at (o := ⟨none, .store 3 (.tmp 30) _, _, _, _, _⟩) ?_); go_must (refine wl_storeK (v := .int .i64 (gl - 1)) hK rfl rfl rfl rfl (sizT (by decide)) rfl (hk := by simp [R18.cells, ConfV.cells, Pose.cells, Go.Sk.Move.cells]) (h := ?_); clear hK; intro w' hK; replace hK : Know w w' S [rBlk b2 moveZ 41, rBlk q (R18.cells c ⟨0, pose, load, epoch, num, true, mv, gl - 1, gt, delay, true, gc⟩) 70] [] := hK))
            | ((with_reducible refine wl_at (o := ⟨none, .store 3 (.tmp 37) _, _, _, _, _⟩) ?_); go_must (refine wl_storeK (v := .int .i64 (gt + 1)) hK rfl rfl rfl rfl (sizT (by decide)) rfl (hk := by simp [R18.cells, ConfV.cells, Pose.cells, Go.Sk.Move.cells]) (h := ?_); clear hK; intro w' hK; replace hK : Know w w' S [rBlk b2 moveZ 41, rBlk q (R18.cells c ⟨0, pose, load, epoch, num, true, mv, gl - 1, gt + 1, delay, true, gc⟩) 70] [] := hK))
            | ((with_reducible refine wl_at (o := ⟨some 47, .load _ _, _, _, _, _⟩) ?_); go_must (refine wl_loadPK (Go.Sk.Move.cells mv) hK rfl rfl rfl (aggT (by decide)) (h := ?_)))
            | ((with_reducible refine wl_at (o := ⟨some 4, .alloc _, _, _, _, _⟩) ?_)
               go_must (refine wl_allocK (z := .agg (moveZ).toArray) (zs := moveZ) hK rfl rfl (by kernel_rfl) rfl ?_; clear hK; intro w4 b4 hK))
            | ((with_reducible refine wl_at (o := ⟨none, .store 41 (.tmp 4) _, _, _, _, _⟩) ?_); go_must (refine wl_storeWK (vs := Go.Sk.Move.cells mv) hK rfl rfl rfl rfl (aggS (by decide)) (move_one _) (h := ?_); clear hK; intro w' hK; simp only [List.set_cons_zero, List.set_cons_succ] at hK))
            | ((with_reducible refine wl_at (o := ⟨some 50, .load _ _, _, _, _, _⟩) ?_); go_must (refine wl_loadPK (Pose.cells mv.dst) hK rfl rfl rfl (aggT (by decide)) (h := ?_)))
            | ((with_reducible refine wl_at (o := ⟨none, .store 39 (.tmp 52) _, _, _, _, _⟩) ?_); go_must (refine wl_storePK (n := 3) (Pose.cells mv.dst) (R18.cells c ⟨0, mv.dst, load, epoch, num, true, mv, gl - 1, gt + 1, delay, true, gc⟩) hK rfl rfl rfl rfl (aggS (by decide)) (pose_one _) (hk := by simp [R18.cells, ConfV.cells, Pose.cells, Go.Sk.Move.cells]) (hc := rfl) (h := ?_); clear hK; intro w' hK; replace hK : Know w w' S [rBlk b4 (Go.Sk.Move.cells mv) 41, rBlk b2 moveZ 41, rBlk q (R18.cells c ⟨0, mv.dst, load, epoch, num, true, mv, gl - 1, gt + 1, delay, true, gc⟩) 70] [] := hK))
            | ((with_reducible refine wl_at (o := ⟨none, .store 4 (.tmp 55) _, _, _, _, _⟩) ?_); go_must (refine wl_storeK (v := .bool false) hK rfl rfl rfl rfl (sizT (by decide)) rfl (hk := by simp [R18.cells, ConfV.cells, Pose.cells, Go.Sk.Move.cells]) (h := ?_); clear hK; intro w' hK; replace hK : Know w w' S [rBlk b4 (Go.Sk.Move.cells mv) 41, rBlk b2 moveZ 41, rBlk q (R18.cells c ⟨0, mv.dst, load, epoch, num, false, mv, gl - 1, gt + 1, delay, true, gc⟩) 70] [] := hK))
            | ((with_reducible refine wl_at (o := ⟨none, .store 41 (.tmp 59) _, _, _, _, _⟩) ?_); go_must (refine wl_storePK (n := 11) (Go.Sk.Move.cells mvZ) (R18.cells c ⟨0, mv.dst, load, epoch, num, false, mvZ, gl - 1, gt + 1, delay, true, gc⟩) hK rfl rfl rfl rfl (aggS (by decide)) (move_one _) (hk := by simp [R18.cells, ConfV.cells, Pose.cells, Go.Sk.Move.cells]) (hc := rfl) (h := ?_); clear hK; intro w' hK; replace hK : Know w w' S [rBlk b4 (Go.Sk.Move.cells mv) 41, rBlk b2 moveZ 41, rBlk q (R18.cells c ⟨0, mv.dst, load, epoch, num, false, mvZ, gl - 1, gt + 1, delay, true, gc⟩) 70] [] := hK))
            | ((with_reducible refine wl_at (o := ⟨none, .store 4 (.tmp 66) _, _, _, _, _⟩) ?_); go_must (refine wl_storeK (v := .bool false) hK rfl rfl rfl rfl (sizT (by decide)) rfl (hk := by simp [R18.cells, ConfV.cells, Pose.cells, Go.Sk.Move.cells]) (h := ?_); clear hK; intro w' hK; replace hK : Know w w' S [rBlk b4 (Go.Sk.Move.cells mv) 41, rBlk b2 moveZ 41, rBlk q (R18.cells c ⟨0, mv.dst, load, epoch, num, false, mvZ, gl - 1, gt + 1, delay, false, gc⟩) 70] [] := hK))
            | ((with_reducible refine wl_at (o := ⟨none, .store 3 (.tmp 74) _, _, _, _, _⟩) ?_); go_must (refine wl_storeK (v := .int .i64 (num + 1)) hK rfl rfl rfl rfl (sizT (by decide)) rfl (hk := by simp [R18.cells, ConfV.cells, Pose.cells, Go.Sk.Move.cells]) (h := ?_); clear hK; intro w' hK; replace hK : Know w w' S [rBlk b4 (Go.Sk.Move.cells mv) 41, rBlk b2 moveZ 41, rBlk q (R18.cells c ⟨0, mv.dst, load, epoch, num + 1, false, mvZ, gl - 1, gt + 1, delay, false, gc⟩) 70] [] := hK))
            | go_big_skip
            | ((with_reducible refine wl_at (o := ⟨_, .load _ _, _, _, _, _⟩) ?_)
               first | refine wl_loadK hK rfl rfl rfl (scalT (by decide)) (h := ?_) | refine wl_loadSK hK rfl rfl rfl (aggT (by decide)) (h := ?_))
            | (with_reducible refine atEnd_mk (by kernel_rfl) ?_))
          exact bodyPost_ret (res_cellS_tmp rfl _ rfl (aggT (by decide)) rfl (hK.blk (b := b2) (cs := Go.Sk.Move.cells mv)).at0) rfl ⟨rfl, HE.out _ ⟨gl - 1, gt + 1, delay, gc⟩ (hK.sub (.cons _ (.cons _ (.cons_cons _ .slnil))))⟩

end Go.Proofs.YtcjpnlplibaffaaGreatDoor
