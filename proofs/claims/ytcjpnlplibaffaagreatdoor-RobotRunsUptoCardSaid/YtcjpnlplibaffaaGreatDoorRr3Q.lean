/- The reference's robot: Shift, goes, stops, Hear. -/
import Derived.Test.YtcjpnlplibaffaaGreatDoorRr2Q
set_option linter.all false
namespace Go.Proofs.YtcjpnlplibaffaaGreatDoor
open Go Go.Sk Go.RowKit
set_option maxRecDepth 100000

set_option maxHeartbeats 1000000 in
theorem ref_Shift {p : Pose} {d n : Int} {w : World} (hp : PoseWf p) (hd : 0 ≤ d ∧ d ≤ 3) (hn : 0 ≤ n ∧ n ≤ 16) : Calls Tryz.prog 77 #[.agg p.cells.toArray, .int .i64 d, .int .i64 n] w (Ret (.tuple #[.agg (shiftP p d n).cells.toArray, .bool true]) w) := by
  have hK : Know w w none' [] [] := Know.start (L := []) w (by simp)
  have kS := Lib.hid (fun (W : World) => ref_shift (p := p) (d := d) (n := n) (w := W) hp hd hn)
  have kW1 := Lib.hid (fun (W : World) => show Calls Tryz.prog 38 #[.int .i64 n, .int .i64 0, .int .i64 16] W (Ret (.bool true) W) by
    have := ref_within n 0 16 W
    rwa [Go.Sk.within_iff.2 (by omega)] at this)
  have kW2 := Lib.hid (fun (W : World) => show Calls Tryz.prog 38 #[.int .i64 d, .int .i64 0, .int .i64 3] W (Ret (.bool true) W) by
    have := ref_within d 0 3 W
    rwa [Go.Sk.within_iff.2 (by omega)] at this)
  obtain ⟨Z, hZ⟩ : ∃ Z, shiftP p d n = Z := ⟨_, rfl⟩
  rw [hZ] at kS ⊢
  clear hZ
  go_enter Tryz.func77, Tryz.ntmps77
  go_wp2_with (first
    | ((with_reducible refine wl_at (o := ⟨some 3, .box _ _, _, _, _, _⟩) ?_)
       go_must (refine wl_boxK hK rfl rfl rfl rfl ?_; clear hK; intro w3 b3 hK))
    | ((with_reducible refine wl_at (o := ⟨some 6, .alloc _, _, _, _, _⟩) ?_)
       go_must (refine wl_allocK (z := .agg (poseZ3).toArray) (zs := poseZ3) hK rfl rfl (by kernel_rfl) rfl ?_; clear hK; intro w6 b6 hK))
    | (go_at_call 38; go_must (first
         | (with_reducible refine (hK.quiet (kW1.out _)).mono ?_; clear hK; rintro e w' ⟨rfl, hK⟩)
         | (with_reducible refine (hK.quiet (kW2.out _)).mono ?_; clear hK; rintro e w' ⟨rfl, hK⟩)))
    | (go_at_call 39; go_must (refine (hK.quiet (kS.out _)).mono ?_; clear hK; rintro e w' ⟨rfl, hK⟩))
    | ((with_reducible refine wl_at (o := ⟨none, .store 39 _ _, _, _, _, _⟩) ?_)
       go_must (refine wl_storeWK (vs := Pose.cells Z) hK rfl rfl rfl rfl (aggS (by decide)) (pose_one _) (h := ?_); clear hK; intro w' hK; simp only [List.set_cons_zero, List.set_cons_succ] at hK))
    | go_big_skip
    | ((with_reducible refine wl_at (o := ⟨_, .load _ _, _, _, _, _⟩) ?_)
       first | refine wl_loadK hK rfl rfl rfl (scalT (by decide)) (h := ?_) | refine wl_loadSK hK rfl rfl rfl (aggT (by decide)) (h := ?_))
    | (with_reducible refine atEnd_mk (by kernel_rfl) ?_))
  exact bodyPost_ret (res_cellS_tmp rfl _ rfl (aggT (by decide)) rfl (hK.blk (b := b6) (cs := Pose.cells Z)).at0) rfl ⟨rfl, hK.mod⟩

/-- What the reference's robot hears: what is answered, how it was taken. -/
def rfEnd (c : ConfV) (q : Nat) (v : RM × List Tele × Int) (w : World) (S : Nat → Prop) (en : Ending) (w' : World) : Prop :=
  ∃ ad cap, en = .returned (.tuple #[.slice ad v.2.1.length cap, .int .i64 v.2.2]) ∧ Turns [rOw 43 elTele (.slice ad v.2.1.length cap) v.2.1, rRF c q v.1] w w' S
theorem Know.rfAll {c : ConfV} {q : Nat} {r : RM} {x : Junk} {w0 w : World} {S : Nat → Prop} {X : Res} {L : List Res} (h : Know w0 w S [X, rBlk q ((R18.of r x).cells c) 70] L) : Know w0 w S [X, rRF c q r] L :=
  h.seen (fun _ _ hh => rRF_p.2 ⟨x, hh⟩) (.tail .head)
theorem rfEnd_nil {c : ConfV} {q : Nat} {r : RM} {x : Junk} {how : Int} {w w' : World} {S : Nat → Prop} {L : List Res} (hK : Know w w' S [rBlk q ((R18.of r x).cells c) 70] L) : rfEnd c q (r, [], how) w S (.returned (.tuple #[.slice none 0 0, .int .i64 how])) w' :=
  ⟨none, 0, rfl, (Know.rfAll (x := x) (hK.nil 43 elTele)).turns⟩
theorem rfEnd_tell {c : ConfV} {q : Nat} {r : RM} {x : Junk} {how : Int} {ad : Option Addr} {w w' : World} {S : Nat → Prop} {L : List Res} (hK : Know w w' S [rOw 43 elTele (.slice ad 1 1) [r.tell 0], rBlk q ((R18.of r x).cells c) 70] L) : rfEnd c q (r, [r.tell 0], how) w S (.returned (.tuple #[.slice ad 1 1, .int .i64 how])) w' :=
  ⟨ad, 1, rfl, (Know.rfAll (x := x) hK).turns⟩

set_option maxHeartbeats 4000000 in
theorem rf_goes {c : ConfV} {t : Tele} {q : Nat} {r : RM} {n : Int} {w : World} {S : Nat → Prop} {v : RM × List Tele × Int} (hok : RMOk c.p r n) (hn : n ≤ 1000000000) (hz : Sized c) (hlt : t.move.at_ < t.move.fin) (hv : r.goes c.p 0 t = v) (h : Know w w S [rRF c q r] [rConf c]) :
    Calls Tryz.prog 62 #[.pointer (some ⟨q, 0, none⟩), .agg t.cells.toArray] w (rfEnd c q v w S) := by
  obtain ⟨x, hK0⟩ := Know.rf h
  have kL := Lib.hid (fun (W : World) => ref_less (a := t.move.fin) (b := t.move.at_) (w := W))
  obtain ⟨pose, load, epoch, num, under, stopping, delay⟩ := r
  obtain ⟨hnum0, hnum1⟩ : 0 ≤ num ∧ num ≤ n := hok.num
  have hpw : PoseWf pose := wfp hok.pose
  have hst := Lib.hid (show under = none → delay = 0 ∧ stopping = false from hok.still)
  clear hok
  unfold RM.goes at hv
  simp only at hv
  cases under with
  | none =>
    have hK : Know w w S [rBlk q (R18.cells c ⟨0, pose, load, epoch, num, false, mvZ, x.left, x.gone, x.wait, stopping, x.cut⟩) 70] [rConf c] := hK0
    clear hK0 h
    by_cases h1 : t.epoch < epoch
    · rw [if_pos h1] at hv
      have d1 : decide (t.epoch < epoch) = true := decide_eq_true h1
      subst hv
      go_enter Tryz.func62, Tryz.ntmps62
      go_wp2_with (first
        | ((with_reducible refine wl_at (o := ⟨some 3, .box _ _, _, _, _, _⟩) ?_)
           go_must (refine wl_boxK hK rfl rfl rfl rfl ?_; clear hK; intro w3 b3 hK))
        | ((with_reducible refine wp_region_textK (id := 1) hK (by kernel_rfl) (by kernel_rfl) ?_); clear hK; intro w' hK)
        | go_big_skip
        | ((with_reducible refine wl_at (o := ⟨_, .load _ _, _, _, _, _⟩) ?_)
           first | refine wl_loadK hK rfl rfl rfl (scalT (by decide)) (h := ?_) | refine wl_loadSK hK rfl rfl rfl (aggT (by decide)) (h := ?_))
        | (with_reducible refine atEnd_mk (by kernel_rfl) ?_))
      go_ret2
      exact rfEnd_nil (x := x) (hK.sub (.cons _ (.cons_cons _ .slnil)))
    · rw [if_neg h1] at hv
      have d1 : decide (t.epoch < epoch) = false := decide_eq_false h1
      by_cases h2 : epoch < t.epoch
      · rw [if_pos (.inl h2)] at hv
        have d2 : decide (epoch < t.epoch) = true := decide_eq_true h2
        subst hv
        go_enter Tryz.func62, Tryz.ntmps62
        go_wp2_with (first
          | ((with_reducible refine wl_at (o := ⟨some 3, .box _ _, _, _, _, _⟩) ?_)
             go_must (refine wl_boxK hK rfl rfl rfl rfl ?_; clear hK; intro w3 b3 hK))
          | ((with_reducible refine wp_region_textK (id := 1) hK (by kernel_rfl) (by kernel_rfl) ?_); clear hK; intro w' hK)
          | ((with_reducible refine wp_region_textK (id := 3) hK (by kernel_rfl) (by kernel_rfl) ?_); clear hK; intro w' hK)
          | go_big_skip
          | ((with_reducible refine wl_at (o := ⟨_, .load _ _, _, _, _, _⟩) ?_)
             first | refine wl_loadK hK rfl rfl rfl (scalT (by decide)) (h := ?_) | refine wl_loadSK hK rfl rfl rfl (aggT (by decide)) (h := ?_))
          | (with_reducible refine atEnd_mk (by kernel_rfl) ?_))
        go_ret2
        exact rfEnd_nil (x := x) (hK.sub (.cons _ (.cons_cons _ .slnil)))
      · rw [if_neg (fun e => e.elim h2 (fun h => by cases h))] at hv
        have d2 : decide (epoch < t.epoch) = false := decide_eq_false h2
        by_cases h3 : 0 < num ∧ t.num = num
        · rw [if_pos h3] at hv
          obtain ⟨h3, h4⟩ := h3
          have d3 : decide (0 < num) = true := decide_eq_true h3
          have d4 : (t.num == num) = true := beq_iff_eq.2 h4
          have d4' : decide (t.num = num) = true := decide_eq_true h4
          clear h4
          have kT := Lib.hid (fun (W : World) (h : Has W (rBlk q (R18.cells c ⟨0, pose, load, epoch, num, false, mvZ, x.left, x.gone, x.wait, stopping, x.cut⟩) 70)) => r18_tell h)
          subst hv
          go_enter Tryz.func62, Tryz.ntmps62
          go_wp2_with (first
            | ((with_reducible refine wl_at (o := ⟨some 3, .box _ _, _, _, _, _⟩) ?_)
               go_must (refine wl_boxK hK rfl rfl rfl rfl ?_; clear hK; intro w3 b3 hK))
            | ((with_reducible refine wp_region_textK (id := 1) hK (by kernel_rfl) (by kernel_rfl) ?_); clear hK; intro w' hK)
            | ((with_reducible refine wp_region_textK (id := 3) hK (by kernel_rfl) (by kernel_rfl) ?_); clear hK; intro w' hK)
            | ((with_reducible refine wp_region_textK (id := 5) hK (by kernel_rfl) (by kernel_rfl) ?_); clear hK; intro w' hK)
            | (go_at_call 50; go_must (refine (kT.out _ hK.own).mono ?_; rintro e w' ⟨ad, rfl, hT⟩; replace hK := hK.push1 hT; clear hT))
            | go_big_skip
            | ((with_reducible refine wl_at (o := ⟨_, .load _ _, _, _, _, _⟩) ?_)
               first | refine wl_loadK hK rfl rfl rfl (scalT (by decide)) (h := ?_) | refine wl_loadSK hK rfl rfl rfl (aggT (by decide)) (h := ?_))
            | (with_reducible refine atEnd_mk (by kernel_rfl) ?_))
          go_ret2
          exact rfEnd_tell (x := x) (hK.sub (.cons_cons _ (.cons _ (.cons_cons _ .slnil))))
        · rw [if_neg h3] at hv
          have hq : (t.num == num) = false ∨ ((t.num == num) = true ∧ decide (0 < num) = false) := by
            by_cases e : t.num = num
            · exact .inr ⟨beq_iff_eq.2 e, decide_eq_false (fun h => h3 ⟨h, e⟩)⟩
            · exact .inl (beq_eq_false_iff_ne.2 e)
          -- the four tests
          by_cases g1 : t.num = num + 1
          rotate_left
          · rw [if_neg (fun e => g1 e.1)] at hv
            have d5 : (t.num != num + 1) = true := by simpa using g1
            have d5' : decide (t.num = num + 1) = false := decide_eq_false g1
            have d5b : (t.num == num + 1) = false := beq_eq_false_iff_ne.2 g1
            clear g1 h3
            subst hv
            rcases hq with d3 | ⟨d3, d4⟩
            all_goals
              have d3' := d3
              go_enter Tryz.func62, Tryz.ntmps62
              go_wp2_with (first
                | ((with_reducible refine wl_at (o := ⟨some 3, .box _ _, _, _, _, _⟩) ?_)
                   go_must (refine wl_boxK hK rfl rfl rfl rfl ?_; clear hK; intro w3 b3 hK))
                | ((with_reducible refine wp_region_textK (id := 1) hK (by kernel_rfl) (by kernel_rfl) ?_); clear hK; intro w' hK)
                | ((with_reducible refine wp_region_textK (id := 3) hK (by kernel_rfl) (by kernel_rfl) ?_); clear hK; intro w' hK)
                | ((with_reducible refine wp_region_textK (id := 5) hK (by kernel_rfl) (by kernel_rfl) ?_); clear hK; intro w' hK)
                | ((with_reducible refine wp_region_textK (id := 8) hK (by kernel_rfl) (by kernel_rfl) ?_); clear hK; intro w' hK)
                | (go_at_call 75; go_must (refine (hK.quiet (kL.out _)).mono ?_; clear hK; rintro e w' ⟨rfl, hK⟩))
                | go_big_skip
                | ((with_reducible refine wl_at (o := ⟨_, .load _ _, _, _, _, _⟩) ?_)
                   first | refine wl_loadK hK rfl rfl rfl (scalT (by decide)) (h := ?_) | refine wl_loadSK hK rfl rfl rfl (aggT (by decide)) (h := ?_))
                | (with_reducible refine atEnd_mk (by kernel_rfl) ?_))
              go_ret2
              exact rfEnd_nil (x := x) (hK.sub (.cons _ (.cons_cons _ .slnil)))
          have d3 : (t.num == num) = false := beq_eq_false_iff_ne.2 (by omega)
          have d3' : decide (t.num = num) = false := decide_eq_false (by omega)
          clear hq
          have d5 : (t.num != num + 1) = false := by simpa using g1
          have d5b : (t.num == num + 1) = true := beq_iff_eq.2 g1
          by_cases g2 : t.move.src = pose
          rotate_left
          · rw [if_neg (fun e => g2 e.2.1)] at hv
            have HP := Lib.hid (decide_eq_false g2)
            clear g1 g2 h3
            subst hv
            go_enter Tryz.func62, Tryz.ntmps62
            go_wp2_with (first
              | ((with_reducible refine wl_at (o := ⟨some 3, .box _ _, _, _, _, _⟩) ?_)
                 go_must (refine wl_boxK hK rfl rfl rfl rfl ?_; clear hK; intro w3 b3 hK))
              | ((with_reducible refine wp_region_textK (id := 1) hK (by kernel_rfl) (by kernel_rfl) ?_); clear hK; intro w' hK)
              | ((with_reducible refine wp_region_textK (id := 3) hK (by kernel_rfl) (by kernel_rfl) ?_); clear hK; intro w' hK)
              | ((with_reducible refine wp_region_textK (id := 5) hK (by kernel_rfl) (by kernel_rfl) ?_); clear hK; intro w' hK)
              | ((with_reducible refine wp_region_textK (id := 8) hK (by kernel_rfl) (by kernel_rfl) ?_); clear hK; intro w' hK)
              | ((with_reducible refine wl_at (o := ⟨some 61, .load _ _, _, _, _, _⟩) ?_); go_must (refine wl_loadPK (Pose.cells t.move.src) hK rfl rfl rfl (aggT (by decide)) (h := ?_)))
              | ((with_reducible refine wl_at (o := ⟨some 65, .load _ _, _, _, _, _⟩) ?_); go_must (refine wl_loadPK (Pose.cells pose) hK rfl rfl rfl (aggT (by decide)) (h := ?_)))
              | ((with_reducible refine wl_at (o := ⟨some 66, _, _, _, _, _⟩) ?_); go_must (refine wl_neqP t.move.src pose poseEq rfl rfl rfl rfl ?_; rw [HP.out]))
              | (go_at_call 75; go_must (refine (hK.quiet (kL.out _)).mono ?_; clear hK; rintro e w' ⟨rfl, hK⟩))
              | go_big_skip
              | ((with_reducible refine wl_at (o := ⟨_, .load _ _, _, _, _, _⟩) ?_)
                 first | refine wl_loadK hK rfl rfl rfl (scalT (by decide)) (h := ?_) | refine wl_loadSK hK rfl rfl rfl (aggT (by decide)) (h := ?_))
              | (with_reducible refine atEnd_mk (by kernel_rfl) ?_))
            go_ret2
            exact rfEnd_nil (x := x) (hK.sub (.cons _ (.cons_cons _ .slnil)))
          have HP := Lib.hid (decide_eq_true g2)
          obtain ⟨lg, hlg⟩ : ∃ lg, legalP c.p t.move = lg := ⟨_, rfl⟩
          have kG := Lib.hid (fun (W : World) (h : Has W (rConf c)) => ref_legal (c := c) (m := t.move) (w := W) h hz (by rw [g2]; exact hpw))
          rw [hlg] at kG
          cases lg
          · rw [if_neg (fun e => by have := e.2.2.1; rw [hlg] at this; cases this)] at hv
            clear g1 g2 h3 hlg
            subst hv
            go_enter Tryz.func62, Tryz.ntmps62
            go_wp2_with (first
              | ((with_reducible refine wl_at (o := ⟨some 3, .box _ _, _, _, _, _⟩) ?_)
                 go_must (refine wl_boxK hK rfl rfl rfl rfl ?_; clear hK; intro w3 b3 hK))
              | ((with_reducible refine wp_region_textK (id := 1) hK (by kernel_rfl) (by kernel_rfl) ?_); clear hK; intro w' hK)
              | ((with_reducible refine wp_region_textK (id := 3) hK (by kernel_rfl) (by kernel_rfl) ?_); clear hK; intro w' hK)
              | ((with_reducible refine wp_region_textK (id := 5) hK (by kernel_rfl) (by kernel_rfl) ?_); clear hK; intro w' hK)
              | ((with_reducible refine wp_region_textK (id := 8) hK (by kernel_rfl) (by kernel_rfl) ?_); clear hK; intro w' hK)
              | ((with_reducible refine wl_at (o := ⟨some 61, .load _ _, _, _, _, _⟩) ?_); go_must (refine wl_loadPK (Pose.cells t.move.src) hK rfl rfl rfl (aggT (by decide)) (h := ?_)))
              | ((with_reducible refine wl_at (o := ⟨some 65, .load _ _, _, _, _, _⟩) ?_); go_must (refine wl_loadPK (Pose.cells pose) hK rfl rfl rfl (aggT (by decide)) (h := ?_)))
              | ((with_reducible refine wl_at (o := ⟨some 66, _, _, _, _, _⟩) ?_); go_must (refine wl_neqP t.move.src pose poseEq rfl rfl rfl rfl ?_; rw [HP.out]))
              | ((with_reducible refine wl_at (o := ⟨some 72, .load _ _, _, _, _, _⟩) ?_); go_must (refine wl_loadPK (ConfV.cells c) hK rfl rfl rfl (aggT (by decide)) (h := ?_)))
              | ((with_reducible refine wl_at (o := ⟨some 74, .load _ _, _, _, _, _⟩) ?_); go_must (refine wl_loadPK (Go.Sk.Move.cells t.move) hK rfl rfl rfl (aggT (by decide)) (h := ?_)))
              | (go_at_call 75; go_must (refine (hK.quiet (kL.out _)).mono ?_; clear hK; rintro e w' ⟨rfl, hK⟩))
              | (go_at_call 20; go_must (refine (hK.quiet (kG.out _ hK.lent)).mono ?_; clear hK; rintro e w' ⟨rfl, hK⟩))
              | go_big_skip
              | ((with_reducible refine wl_at (o := ⟨_, .load _ _, _, _, _, _⟩) ?_)
                 first | refine wl_loadK hK rfl rfl rfl (scalT (by decide)) (h := ?_) | refine wl_loadSK hK rfl rfl rfl (aggT (by decide)) (h := ?_))
              | (with_reducible refine atEnd_mk (by kernel_rfl) ?_))
            go_ret2
            exact rfEnd_nil (x := x) (hK.sub (.cons _ (.cons_cons _ .slnil)))
          by_cases g4 : lessP t.move.fin t.move.at_ = 0
          · rw [if_neg (fun e => e.2.2.2.2 g4)] at hv
            rw [g4] at kL
            clear g1 g2 h3 hlg g4
            subst hv
            go_enter Tryz.func62, Tryz.ntmps62
            go_wp2_with (first
              | ((with_reducible refine wl_at (o := ⟨some 3, .box _ _, _, _, _, _⟩) ?_)
                 go_must (refine wl_boxK hK rfl rfl rfl rfl ?_; clear hK; intro w3 b3 hK))
              | ((with_reducible refine wp_region_textK (id := 1) hK (by kernel_rfl) (by kernel_rfl) ?_); clear hK; intro w' hK)
              | ((with_reducible refine wp_region_textK (id := 3) hK (by kernel_rfl) (by kernel_rfl) ?_); clear hK; intro w' hK)
              | ((with_reducible refine wp_region_textK (id := 5) hK (by kernel_rfl) (by kernel_rfl) ?_); clear hK; intro w' hK)
              | ((with_reducible refine wp_region_textK (id := 8) hK (by kernel_rfl) (by kernel_rfl) ?_); clear hK; intro w' hK)
              | ((with_reducible refine wl_at (o := ⟨some 61, .load _ _, _, _, _, _⟩) ?_); go_must (refine wl_loadPK (Pose.cells t.move.src) hK rfl rfl rfl (aggT (by decide)) (h := ?_)))
              | ((with_reducible refine wl_at (o := ⟨some 65, .load _ _, _, _, _, _⟩) ?_); go_must (refine wl_loadPK (Pose.cells pose) hK rfl rfl rfl (aggT (by decide)) (h := ?_)))
              | ((with_reducible refine wl_at (o := ⟨some 66, _, _, _, _, _⟩) ?_); go_must (refine wl_neqP t.move.src pose poseEq rfl rfl rfl rfl ?_; rw [HP.out]))
              | ((with_reducible refine wl_at (o := ⟨some 72, .load _ _, _, _, _, _⟩) ?_); go_must (refine wl_loadPK (ConfV.cells c) hK rfl rfl rfl (aggT (by decide)) (h := ?_)))
              | ((with_reducible refine wl_at (o := ⟨some 74, .load _ _, _, _, _, _⟩) ?_); go_must (refine wl_loadPK (Go.Sk.Move.cells t.move) hK rfl rfl rfl (aggT (by decide)) (h := ?_)))
              | (go_at_call 75; go_must (refine (hK.quiet (kL.out _)).mono ?_; clear hK; rintro e w' ⟨rfl, hK⟩))
              | (go_at_call 20; go_must (refine (hK.quiet (kG.out _ hK.lent)).mono ?_; clear hK; rintro e w' ⟨rfl, hK⟩))
              | go_big_skip
              | ((with_reducible refine wl_at (o := ⟨_, .load _ _, _, _, _, _⟩) ?_)
                 first | refine wl_loadK hK rfl rfl rfl (scalT (by decide)) (h := ?_) | refine wl_loadSK hK rfl rfl rfl (aggT (by decide)) (h := ?_))
              | (with_reducible refine atEnd_mk (by kernel_rfl) ?_))
            go_ret2
            exact rfEnd_nil (x := x) (hK.sub (.cons _ (.cons_cons _ .slnil)))
          · rw [if_pos ⟨g1, g2, hlg, hlt, g4⟩] at hv
            obtain ⟨T, hT⟩ : ∃ T, lessP t.move.fin t.move.at_ = T := ⟨_, rfl⟩
            rw [hT] at kL hv g4
            have d6 : (T == 0) = false := beq_eq_false_iff_ne.2 g4
            have d6' : decide (T = 0) = false := decide_eq_false g4
            have hstop : stopping = false ∧ delay = 0 := ⟨(hst.out rfl).2, (hst.out rfl).1⟩
            obtain ⟨rfl, rfl⟩ := hstop
            clear g1 g2 h3 hlg hT g4
            subst hv
            go_enter Tryz.func62, Tryz.ntmps62
            go_wp2_with (first
              | ((with_reducible refine wl_at (o := ⟨some 3, .box _ _, _, _, _, _⟩) ?_)
                 go_must (refine wl_boxK hK rfl rfl rfl rfl ?_; clear hK; intro w3 b3 hK))
              | ((with_reducible refine wp_region_textK (id := 1) hK (by kernel_rfl) (by kernel_rfl) ?_); clear hK; intro w' hK)
              | ((with_reducible refine wp_region_textK (id := 3) hK (by kernel_rfl) (by kernel_rfl) ?_); clear hK; intro w' hK)
              | ((with_reducible refine wp_region_textK (id := 5) hK (by kernel_rfl) (by kernel_rfl) ?_); clear hK; intro w' hK)
              | ((with_reducible refine wp_region_textK (id := 8) hK (by kernel_rfl) (by kernel_rfl) ?_); clear hK; intro w' hK)
              | ((with_reducible refine wl_at (o := ⟨some 61, .load _ _, _, _, _, _⟩) ?_); go_must (refine wl_loadPK (Pose.cells t.move.src) hK rfl rfl rfl (aggT (by decide)) (h := ?_)))
              | ((with_reducible refine wl_at (o := ⟨some 65, .load _ _, _, _, _, _⟩) ?_); go_must (refine wl_loadPK (Pose.cells pose) hK rfl rfl rfl (aggT (by decide)) (h := ?_)))
              | ((with_reducible refine wl_at (o := ⟨some 66, _, _, _, _, _⟩) ?_); go_must (refine wl_neqP t.move.src pose poseEq rfl rfl rfl rfl ?_; rw [HP.out]))
              | ((with_reducible refine wl_at (o := ⟨some 72, .load _ _, _, _, _, _⟩) ?_); go_must (refine wl_loadPK (ConfV.cells c) hK rfl rfl rfl (aggT (by decide)) (h := ?_)))
              | ((with_reducible refine wl_at (o := ⟨some 74, .load _ _, _, _, _, _⟩) ?_); go_must (refine wl_loadPK (Go.Sk.Move.cells t.move) hK rfl rfl rfl (aggT (by decide)) (h := ?_)))
              | (go_at_call 75; go_must (refine (hK.quiet (kL.out _)).mono ?_; clear hK; rintro e w' ⟨rfl, hK⟩))
              | (go_at_call 20; go_must (refine (hK.quiet (kG.out _ hK.lent)).mono ?_; clear hK; rintro e w' ⟨rfl, hK⟩))
              | ((with_reducible refine wl_at (o := ⟨none, .store 4 (.tmp 84) _, _, _, _, _⟩) ?_); go_must (refine wl_storeK (v := .bool true) hK rfl rfl rfl rfl (sizT (by decide)) rfl (hk := by simp [R18.cells, ConfV.cells, Pose.cells, Go.Sk.Move.cells]) (h := ?_); clear hK; intro w' hK; replace hK : Know w w' S [rBlk b3 (Tele.cells t) 43, rBlk q (R18.cells c ⟨0, pose, load, epoch, num, true, mvZ, x.left, x.gone, x.wait, false, x.cut⟩) 70] [rConf c] := hK))
              | ((with_reducible refine wl_at (o := ⟨some 87, .load _ _, _, _, _, _⟩) ?_); go_must (refine wl_loadPK (Go.Sk.Move.cells t.move) hK rfl rfl rfl (aggT (by decide)) (h := ?_)))
              | ((with_reducible refine wl_at (o := ⟨none, .store 41 (.tmp 89) _, _, _, _, _⟩) ?_); go_must (refine wl_storePK (n := 11) (Go.Sk.Move.cells t.move) (R18.cells c ⟨0, pose, load, epoch, num, true, t.move, x.left, x.gone, x.wait, false, x.cut⟩) hK rfl rfl rfl rfl (aggS (by decide)) (move_one _) (hk := by simp [R18.cells, ConfV.cells, Pose.cells, Go.Sk.Move.cells]) (hc := rfl) (h := ?_); clear hK; intro w' hK; replace hK : Know w w' S [rBlk b3 (Tele.cells t) 43, rBlk q (R18.cells c ⟨0, pose, load, epoch, num, true, t.move, x.left, x.gone, x.wait, false, x.cut⟩) 70] [rConf c] := hK))
              | ((with_reducible refine wl_at (o := ⟨none, .store 3 (.tmp 93) _, _, _, _, _⟩) ?_); go_must (refine wl_storeK (v := .int .i64 T) hK rfl rfl rfl rfl (sizT (by decide)) rfl (hk := by simp [R18.cells, ConfV.cells, Pose.cells, Go.Sk.Move.cells]) (h := ?_); clear hK; intro w' hK; replace hK : Know w w' S [rBlk b3 (Tele.cells t) 43, rBlk q (R18.cells c ⟨0, pose, load, epoch, num, true, t.move, T, x.gone, x.wait, false, x.cut⟩) 70] [rConf c] := hK))
              | ((with_reducible refine wl_at (o := ⟨none, .store 3 (.tmp 96) _, _, _, _, _⟩) ?_); go_must (refine wl_storeK (v := .int .i64 0) hK rfl rfl rfl rfl (sizT (by decide)) rfl (hk := by simp [R18.cells, ConfV.cells, Pose.cells, Go.Sk.Move.cells]) (h := ?_); clear hK; intro w' hK; replace hK : Know w w' S [rBlk b3 (Tele.cells t) 43, rBlk q (R18.cells c ⟨0, pose, load, epoch, num, true, t.move, T, 0, x.wait, false, x.cut⟩) 70] [rConf c] := hK))
              | ((with_reducible refine wl_at (o := ⟨none, .store 3 (.tmp 99) _, _, _, _, _⟩) ?_); go_must (refine wl_storeK (v := .int .i64 0) hK rfl rfl rfl rfl (sizT (by decide)) rfl (hk := by simp [R18.cells, ConfV.cells, Pose.cells, Go.Sk.Move.cells]) (h := ?_); clear hK; intro w' hK; replace hK : Know w w' S [rBlk b3 (Tele.cells t) 43, rBlk q (R18.cells c ⟨0, pose, load, epoch, num, true, t.move, T, 0, 0, false, x.cut⟩) 70] [rConf c] := hK))
              | ((with_reducible refine wl_at (o := ⟨none, .store 4 (.tmp 102) _, _, _, _, _⟩) ?_); go_must (refine wl_storeK (v := .bool false) hK rfl rfl rfl rfl (sizT (by decide)) rfl (hk := by simp [R18.cells, ConfV.cells, Pose.cells, Go.Sk.Move.cells]) (h := ?_); clear hK; intro w' hK; replace hK : Know w w' S [rBlk b3 (Tele.cells t) 43, rBlk q (R18.cells c ⟨0, pose, load, epoch, num, true, t.move, T, 0, 0, false, false⟩) 70] [rConf c] := hK))
              | go_big_skip
              | ((with_reducible refine wl_at (o := ⟨_, .load _ _, _, _, _, _⟩) ?_)
                 first | refine wl_loadK hK rfl rfl rfl (scalT (by decide)) (h := ?_) | refine wl_loadSK hK rfl rfl rfl (aggT (by decide)) (h := ?_))
              | (with_reducible refine atEnd_mk (by kernel_rfl) ?_))
            go_ret2
            exact rfEnd_nil (x := x) (hK.sub (.cons _ (.cons_cons _ .slnil)))
  | some g =>
    have hK : Know w w S [rBlk q (R18.cells c ⟨0, pose, load, epoch, num, true, g.move, g.left, g.t, delay, stopping, g.cut⟩) 70] [rConf c] := hK0
    clear hK0 h
    by_cases h1 : t.epoch < epoch
    · rw [if_pos h1] at hv
      have d1 : decide (t.epoch < epoch) = true := decide_eq_true h1
      subst hv
      go_enter Tryz.func62, Tryz.ntmps62
      go_wp2_with (first
        | ((with_reducible refine wl_at (o := ⟨some 3, .box _ _, _, _, _, _⟩) ?_)
           go_must (refine wl_boxK hK rfl rfl rfl rfl ?_; clear hK; intro w3 b3 hK))
        | ((with_reducible refine wp_region_textK (id := 1) hK (by kernel_rfl) (by kernel_rfl) ?_); clear hK; intro w' hK)
        | go_big_skip
        | ((with_reducible refine wl_at (o := ⟨_, .load _ _, _, _, _, _⟩) ?_)
           first | refine wl_loadK hK rfl rfl rfl (scalT (by decide)) (h := ?_) | refine wl_loadSK hK rfl rfl rfl (aggT (by decide)) (h := ?_))
        | (with_reducible refine atEnd_mk (by kernel_rfl) ?_))
      go_ret2
      exact rfEnd_nil (x := x) (hK.sub (.cons _ (.cons_cons _ .slnil)))
    · rw [if_neg h1, if_pos (.inr rfl)] at hv
      have d1 : decide (t.epoch < epoch) = false := decide_eq_false h1
      by_cases h2 : epoch < t.epoch
      · have d2 : decide (epoch < t.epoch) = true := decide_eq_true h2
        subst hv
        go_enter Tryz.func62, Tryz.ntmps62
        go_wp2_with (first
          | ((with_reducible refine wl_at (o := ⟨some 3, .box _ _, _, _, _, _⟩) ?_)
             go_must (refine wl_boxK hK rfl rfl rfl rfl ?_; clear hK; intro w3 b3 hK))
          | ((with_reducible refine wp_region_textK (id := 1) hK (by kernel_rfl) (by kernel_rfl) ?_); clear hK; intro w' hK)
          | ((with_reducible refine wp_region_textK (id := 3) hK (by kernel_rfl) (by kernel_rfl) ?_); clear hK; intro w' hK)
          | go_big_skip
          | ((with_reducible refine wl_at (o := ⟨_, .load _ _, _, _, _, _⟩) ?_)
             first | refine wl_loadK hK rfl rfl rfl (scalT (by decide)) (h := ?_) | refine wl_loadSK hK rfl rfl rfl (aggT (by decide)) (h := ?_))
          | (with_reducible refine atEnd_mk (by kernel_rfl) ?_))
        go_ret2
        exact rfEnd_nil (x := x) (hK.sub (.cons _ (.cons_cons _ .slnil)))
      · have d2 : decide (epoch < t.epoch) = false := decide_eq_false h2
        subst hv
        go_enter Tryz.func62, Tryz.ntmps62
        go_wp2_with (first
          | ((with_reducible refine wl_at (o := ⟨some 3, .box _ _, _, _, _, _⟩) ?_)
             go_must (refine wl_boxK hK rfl rfl rfl rfl ?_; clear hK; intro w3 b3 hK))
          | ((with_reducible refine wp_region_textK (id := 1) hK (by kernel_rfl) (by kernel_rfl) ?_); clear hK; intro w' hK)
          | ((with_reducible refine wp_region_textK (id := 3) hK (by kernel_rfl) (by kernel_rfl) ?_); clear hK; intro w' hK)
          | go_big_skip
          | ((with_reducible refine wl_at (o := ⟨_, .load _ _, _, _, _, _⟩) ?_)
             first | refine wl_loadK hK rfl rfl rfl (scalT (by decide)) (h := ?_) | refine wl_loadSK hK rfl rfl rfl (aggT (by decide)) (h := ?_))
          | (with_reducible refine atEnd_mk (by kernel_rfl) ?_))
        go_ret2
        exact rfEnd_nil (x := x) (hK.sub (.cons _ (.cons_cons _ .slnil)))

set_option maxHeartbeats 4000000 in
theorem rf_stops {c : ConfV} {t : Tele} {q : Nat} {r : RM} {n : Int} {w : World} {S : Nat → Prop} {v : RM × List Tele × Int} (hok : RMOk c.p r n) (hko : (kinOf c.p).Ok) (hv : r.stops (kinOf c.p) 0 t.epoch = v) (h : Know w w S [rRF c q r] [rConf c]) :
    Calls Tryz.prog 63 #[.pointer (some ⟨q, 0, none⟩), .agg t.cells.toArray] w (rfEnd c q v w S) := by
  obtain ⟨x, hK0⟩ := Know.rf h
  have kK := Lib.hid (fun (W : World) => ref_kin (c := c) (w := W))
  have he0 := hok.epoch
  obtain ⟨pose, load, epoch, num, under, stopping, delay⟩ := r
  obtain ⟨hnum0, hnum1⟩ : 0 ≤ num ∧ num ≤ n := hok.num
  replace he0 : 0 ≤ epoch := he0
  unfold RM.stops at hv
  simp only at hv
  cases under with
  | none =>
    clear hok
    have hK : Know w w S [rBlk q (R18.cells c ⟨0, pose, load, epoch, num, false, mvZ, x.left, x.gone, x.wait, stopping, x.cut⟩) 70] [rConf c] := hK0
    clear hK0 h
    by_cases h1 : t.epoch < epoch
    · rw [if_pos h1] at hv
      have d1 : decide (t.epoch < epoch) = true := decide_eq_true h1
      subst hv
      go_enter Tryz.func63, Tryz.ntmps63
      go_wp2_with (first
        | ((with_reducible refine wl_at (o := ⟨some 3, .box _ _, _, _, _, _⟩) ?_)
           go_must (refine wl_boxK hK rfl rfl rfl rfl ?_; clear hK; intro w3 b3 hK))
        | ((with_reducible refine wp_region_textK (id := 1) hK (by kernel_rfl) (by kernel_rfl) ?_); clear hK; intro w' hK)
        | go_big_skip
        | ((with_reducible refine wl_at (o := ⟨_, .load _ _, _, _, _, _⟩) ?_)
           first | refine wl_loadK hK rfl rfl rfl (scalT (by decide)) (h := ?_) | refine wl_loadSK hK rfl rfl rfl (aggT (by decide)) (h := ?_))
        | (with_reducible refine atEnd_mk (by kernel_rfl) ?_))
      go_ret2
      exact rfEnd_nil (x := x) (hK.sub (.cons _ (.cons_cons _ .slnil)))
    · rw [if_neg h1] at hv
      have d1 : decide (t.epoch < epoch) = false := decide_eq_false h1
      by_cases h2 : epoch < t.epoch
      · rw [if_pos h2] at hv
        have d2 : (t.epoch == epoch) = false := beq_eq_false_iff_ne.2 (by omega)
        have d2' : decide (t.epoch = epoch) = false := decide_eq_false (by omega)
        have kT := Lib.hid (fun (W : World) (h : Has W (rBlk q (R18.cells c ⟨0, pose, load, t.epoch, 0, false, mvZ, x.left, x.gone, x.wait, stopping, x.cut⟩) 70)) => (show Calls Tryz.prog 50 #[.pointer (some ⟨q, 0, none⟩)] W fun e w' => ∃ ad, e = .returned (.slice ad 1 1) ∧ Turn (rOw 43 elTele (.slice ad 1 1) [RM.tell 0 ⟨pose, load, t.epoch, 0, none, stopping, delay⟩]) W w' none' from r18_tell h))
        subst hv
        go_enter Tryz.func63, Tryz.ntmps63
        go_wp2_with (first
          | ((with_reducible refine wl_at (o := ⟨some 3, .box _ _, _, _, _, _⟩) ?_)
             go_must (refine wl_boxK hK rfl rfl rfl rfl ?_; clear hK; intro w3 b3 hK))
          | ((with_reducible refine wp_region_textK (id := 1) hK (by kernel_rfl) (by kernel_rfl) ?_); clear hK; intro w' hK)
          | ((with_reducible refine wp_region_textK (id := 3) hK (by kernel_rfl) (by kernel_rfl) ?_); clear hK; intro w' hK)
          | ((with_reducible refine wl_at (o := ⟨none, .store 3 (.tmp 47) _, _, _, _, _⟩) ?_); go_must (refine wl_storeK (v := .int .i64 t.epoch) hK rfl rfl rfl rfl (sizT (by decide)) rfl (hk := by simp [R18.cells, ConfV.cells, Pose.cells, Go.Sk.Move.cells]) (h := ?_); clear hK; intro w' hK; replace hK : Know w w' S [rBlk b3 (Tele.cells t) 43, rBlk q (R18.cells c ⟨0, pose, load, t.epoch, num, false, mvZ, x.left, x.gone, x.wait, stopping, x.cut⟩) 70] [rConf c] := hK))
          | ((with_reducible refine wl_at (o := ⟨none, .store 3 (.tmp 50) _, _, _, _, _⟩) ?_); go_must (refine wl_storeK (v := .int .i64 0) hK rfl rfl rfl rfl (sizT (by decide)) rfl (hk := by simp [R18.cells, ConfV.cells, Pose.cells, Go.Sk.Move.cells]) (h := ?_); clear hK; intro w' hK; replace hK : Know w w' S [rBlk b3 (Tele.cells t) 43, rBlk q (R18.cells c ⟨0, pose, load, t.epoch, 0, false, mvZ, x.left, x.gone, x.wait, stopping, x.cut⟩) 70] [rConf c] := hK))
          | (go_at_call 50; go_must (refine (kT.out _ hK.own).mono ?_; rintro e w' ⟨ad, rfl, hT⟩; replace hK := hK.push1 hT; clear hT))
          | go_big_skip
          | ((with_reducible refine wl_at (o := ⟨_, .load _ _, _, _, _, _⟩) ?_)
             first | refine wl_loadK hK rfl rfl rfl (scalT (by decide)) (h := ?_) | refine wl_loadSK hK rfl rfl rfl (aggT (by decide)) (h := ?_))
          | (with_reducible refine atEnd_mk (by kernel_rfl) ?_))
        go_ret2
        exact rfEnd_tell (x := x) (hK.sub (.cons_cons _ (.cons _ (.cons_cons _ .slnil))))
      · rw [if_neg h2] at hv
        have he : epoch = t.epoch := by omega
        subst he
        have d1 : decide (t.epoch < t.epoch) = false := decide_eq_false (by omega)
        by_cases h3 : 0 < t.epoch
        · have d3 : decide (0 < t.epoch) = true := decide_eq_true h3
          by_cases h4 : num = 0
          · subst h4
            rw [if_neg (fun e => e.elim (fun h => by omega) (fun h => h.elim (fun h => by cases h) (fun h => h rfl)))] at hv
            have kT := Lib.hid (fun (W : World) (h : Has W (rBlk q (R18.cells c ⟨0, pose, load, t.epoch, 0, false, mvZ, x.left, x.gone, x.wait, stopping, x.cut⟩) 70)) => (show Calls Tryz.prog 50 #[.pointer (some ⟨q, 0, none⟩)] W fun e w' => ∃ ad, e = .returned (.slice ad 1 1) ∧ Turn (rOw 43 elTele (.slice ad 1 1) [RM.tell 0 ⟨pose, load, t.epoch, 0, none, stopping, delay⟩]) W w' none' from r18_tell h))
            subst hv
            go_enter Tryz.func63, Tryz.ntmps63
            go_wp2_with (first
              | ((with_reducible refine wl_at (o := ⟨some 3, .box _ _, _, _, _, _⟩) ?_)
                 go_must (refine wl_boxK hK rfl rfl rfl rfl ?_; clear hK; intro w3 b3 hK))
              | ((with_reducible refine wp_region_textK (id := 1) hK (by kernel_rfl) (by kernel_rfl) ?_); clear hK; intro w' hK)
              | ((with_reducible refine wp_region_textK (id := 3) hK (by kernel_rfl) (by kernel_rfl) ?_); clear hK; intro w' hK)
              | (go_at_call 50; go_must (refine (kT.out _ hK.own).mono ?_; rintro e w' ⟨ad, rfl, hT⟩; replace hK := hK.push1 hT; clear hT))
              | go_big_skip
              | ((with_reducible refine wl_at (o := ⟨_, .load _ _, _, _, _, _⟩) ?_)
                 first | refine wl_loadK hK rfl rfl rfl (scalT (by decide)) (h := ?_) | refine wl_loadSK hK rfl rfl rfl (aggT (by decide)) (h := ?_))
              | (with_reducible refine atEnd_mk (by kernel_rfl) ?_))
            go_ret2
            exact rfEnd_tell (x := x) (hK.sub (.cons_cons _ (.cons _ (.cons_cons _ .slnil))))
          · rw [if_pos (.inr (.inr h4))] at hv
            have d4 : (num == 0) = false := beq_eq_false_iff_ne.2 h4
            have d4' : decide (num = 0) = false := decide_eq_false h4
            clear h4
            subst hv
            go_enter Tryz.func63, Tryz.ntmps63
            go_wp2_with (first
              | ((with_reducible refine wl_at (o := ⟨some 3, .box _ _, _, _, _, _⟩) ?_)
                 go_must (refine wl_boxK hK rfl rfl rfl rfl ?_; clear hK; intro w3 b3 hK))
              | ((with_reducible refine wp_region_textK (id := 1) hK (by kernel_rfl) (by kernel_rfl) ?_); clear hK; intro w' hK)
              | ((with_reducible refine wp_region_textK (id := 3) hK (by kernel_rfl) (by kernel_rfl) ?_); clear hK; intro w' hK)
              | go_big_skip
              | ((with_reducible refine wl_at (o := ⟨_, .load _ _, _, _, _, _⟩) ?_)
                 first | refine wl_loadK hK rfl rfl rfl (scalT (by decide)) (h := ?_) | refine wl_loadSK hK rfl rfl rfl (aggT (by decide)) (h := ?_))
              | (with_reducible refine atEnd_mk (by kernel_rfl) ?_))
            go_ret2
            exact rfEnd_nil (x := x) (hK.sub (.cons _ (.cons_cons _ .slnil)))
        · have h30 : t.epoch = 0 := by omega
          rw [if_pos (.inl h30)] at hv
          have d3 : decide (0 < t.epoch) = false := decide_eq_false h3
          clear h30
          subst hv
          go_enter Tryz.func63, Tryz.ntmps63
          go_wp2_with (first
            | ((with_reducible refine wl_at (o := ⟨some 3, .box _ _, _, _, _, _⟩) ?_)
               go_must (refine wl_boxK hK rfl rfl rfl rfl ?_; clear hK; intro w3 b3 hK))
            | ((with_reducible refine wp_region_textK (id := 1) hK (by kernel_rfl) (by kernel_rfl) ?_); clear hK; intro w' hK)
            | ((with_reducible refine wp_region_textK (id := 3) hK (by kernel_rfl) (by kernel_rfl) ?_); clear hK; intro w' hK)
            | go_big_skip
            | ((with_reducible refine wl_at (o := ⟨_, .load _ _, _, _, _, _⟩) ?_)
               first | refine wl_loadK hK rfl rfl rfl (scalT (by decide)) (h := ?_) | refine wl_loadSK hK rfl rfl rfl (aggT (by decide)) (h := ?_))
            | (with_reducible refine atEnd_mk (by kernel_rfl) ?_))
          go_ret2
          exact rfEnd_nil (x := x) (hK.sub (.cons _ (.cons_cons _ .slnil)))
  | some g =>
    have hgo := hok.going g rfl
    obtain ⟨mv, gt, gl, gc⟩ := g
    simp only at hgo
    obtain ⟨g0, g1, g2, g3, g5, g6, g7⟩ := hgo
    clear hok
    have hK : Know w w S [rBlk q (R18.cells c ⟨0, pose, load, epoch, num, true, mv, gl, gt, delay, stopping, gc⟩) 70] [rConf c] := hK0
    clear hK0 h
    by_cases h1 : t.epoch < epoch
    · rw [if_pos h1] at hv
      have d1 : decide (t.epoch < epoch) = true := decide_eq_true h1
      subst hv
      go_enter Tryz.func63, Tryz.ntmps63
      go_wp2_with (first
        | ((with_reducible refine wl_at (o := ⟨some 3, .box _ _, _, _, _, _⟩) ?_)
           go_must (refine wl_boxK hK rfl rfl rfl rfl ?_; clear hK; intro w3 b3 hK))
        | ((with_reducible refine wp_region_textK (id := 1) hK (by kernel_rfl) (by kernel_rfl) ?_); clear hK; intro w' hK)
        | go_big_skip
        | ((with_reducible refine wl_at (o := ⟨_, .load _ _, _, _, _, _⟩) ?_)
           first | refine wl_loadK hK rfl rfl rfl (scalT (by decide)) (h := ?_) | refine wl_loadSK hK rfl rfl rfl (aggT (by decide)) (h := ?_))
        | (with_reducible refine atEnd_mk (by kernel_rfl) ?_))
      go_ret2
      exact rfEnd_nil (x := x) (hK.sub (.cons _ (.cons_cons _ .slnil)))
    · rw [if_neg h1] at hv
      have d1 : decide (t.epoch < epoch) = false := decide_eq_false h1
      by_cases h2 : epoch < t.epoch
      · rw [if_pos h2] at hv
        simp only at hv
        have d2 : (t.epoch == epoch) = false := beq_eq_false_iff_ne.2 (by omega)
        have d2' : decide (t.epoch = epoch) = false := decide_eq_false (by omega)
        by_cases h5 : mv.kind = 1 ∧ gc = false
        · obtain ⟨h5, rfl⟩ := h5
          have hl := g5 rfl
          obtain ⟨⟨a10, a11⟩, ⟨a20, a21⟩, a3, a4⟩ := legal_run hl h5
          have hs := KinP.stop_is hko (n := mv.n) (t := gt) (by omega)
          have kS := Lib.hid (fun (W : World) => k9_stop hko (n := mv.n) (t := gt) (w := W))
          obtain ⟨sn, hsn⟩ : ∃ sn, ((kinOf c.p).stop mv.n gt).1 = sn := ⟨_, rfl⟩
          obtain ⟨sk, hsk⟩ : ∃ sk, ((kinOf c.p).stop mv.n gt).2 = sk := ⟨_, rfl⟩
          rw [hsn, hsk] at kS hs
          have kH := Lib.hid (fun (W : World) => ref_Shift (p := mv.src) (d := mv.dir) (n := sn) (w := W) (wfp g6) ⟨a20, a21⟩ ⟨hs.1, by omega⟩)
          obtain ⟨Z, hZ⟩ : ∃ Z, shiftP mv.src mv.dir sn = Z := ⟨_, rfl⟩
          rw [hZ] at kH
          have hcut : (⟨mv, gt, gl, false⟩ : Going).cuts (kinOf c.p) = ⟨{ mv with n := sn, dst := Z }, gt, max 1 sk, true⟩ := by
            unfold Going.cuts
            rw [if_pos ⟨h5, rfl⟩]
            simp only [hsn, hsk, hZ]
          rw [hcut] at hv
          have dk : (mv.kind == 1) = true := beq_iff_eq.2 h5
          have dk' : decide (mv.kind = 1) = true := decide_eq_true h5
          clear hcut hZ hsn hsk h5 hl a3 a4 hs g5
          subst hv
          go_enter Tryz.func63, Tryz.ntmps63
          go_wp2_with (first
            | ((with_reducible refine wl_at (o := ⟨some 3, .box _ _, _, _, _, _⟩) ?_)
               go_must (refine wl_boxK hK rfl rfl rfl rfl ?_; clear hK; intro w3 b3 hK))
            | ((with_reducible refine wp_region_textK (id := 1) hK (by kernel_rfl) (by kernel_rfl) ?_); clear hK; intro w' hK)
            | ((with_reducible refine wp_region_textK (id := 3) hK (by kernel_rfl) (by kernel_rfl) ?_); clear hK; intro w' hK)
            | ((with_reducible refine wp_region_textK (id := 15) hK (by kernel_rfl) (by kernel_rfl) ?_); clear hK; intro w' hK)
            | ((with_reducible refine wp_region_stableK (id := 13) hK [9, 13] [rBlk q (R18.cells c ⟨0, pose, load, t.epoch, 0, true, mv, gl, gt, delay, true, false⟩) 70] (by kernel_rfl) (by kernel_rfl) (by simp) (by kernel_rfl) ?_); clear hK; intro w' hK)
            | (with_reducible refine wpC_of ?_)
            | (with_reducible refine atEndC (hK.cls (by simp)) ?_)
            | ((with_reducible refine wpC_end' ?_); refine wpC_nil ⟨by kernel_rfl, stays_loadK rfl rfl rfl rfl (scalT (by decide)) rfl (rest := stays_loadK rfl rfl rfl rfl (scalT (by decide)) rfl (rest := stays_nil)), ?_⟩)
            | ((with_reducible refine wl_at (o := ⟨none, .store 3 (.tmp 47) _, _, _, _, _⟩) ?_); go_must (refine wl_storeK (v := .int .i64 t.epoch) hK rfl rfl rfl rfl (sizT (by decide)) rfl (hk := by simp [R18.cells, ConfV.cells, Pose.cells, Go.Sk.Move.cells]) (h := ?_); clear hK; intro w' hK; replace hK : Know w w' S [rBlk b3 (Tele.cells t) 43, rBlk q (R18.cells c ⟨0, pose, load, t.epoch, num, true, mv, gl, gt, delay, stopping, false⟩) 70] [rConf c] := hK))
            | ((with_reducible refine wl_at (o := ⟨none, .store 3 (.tmp 50) _, _, _, _, _⟩) ?_); go_must (refine wl_storeK (v := .int .i64 0) hK rfl rfl rfl rfl (sizT (by decide)) rfl (hk := by simp [R18.cells, ConfV.cells, Pose.cells, Go.Sk.Move.cells]) (h := ?_); clear hK; intro w' hK; replace hK : Know w w' S [rBlk b3 (Tele.cells t) 43, rBlk q (R18.cells c ⟨0, pose, load, t.epoch, 0, true, mv, gl, gt, delay, stopping, false⟩) 70] [rConf c] := hK))
            | ((with_reducible refine wl_at (o := ⟨none, .store 4 (.tmp 60) _, _, _, _, _⟩) ?_); go_must (refine wl_storeK (v := .bool true) hK rfl rfl rfl rfl (sizT (by decide)) rfl (hk := by simp [R18.cells, ConfV.cells, Pose.cells, Go.Sk.Move.cells]) (h := ?_); clear hK; intro w' hK; replace hK : Know w w' S [rBlk b3 (Tele.cells t) 43, rBlk q (R18.cells c ⟨0, pose, load, t.epoch, 0, true, mv, gl, gt, delay, true, false⟩) 70] [rConf c] := hK))
            | ((with_reducible refine wl_at (o := ⟨some 78, .load _ _, _, _, _, _⟩) ?_); go_must (refine wl_loadPK (ConfV.cells c) hK rfl rfl rfl (aggT (by decide)) (h := ?_)))
            | (go_at_call 35; go_must (refine (hK.quiet (kK.out _)).mono ?_; clear hK; rintro e w' ⟨rfl, hK⟩))
            | (go_at_call 76; go_must (refine (hK.quiet (kS.out _)).mono ?_; clear hK; rintro e w' ⟨rfl, hK⟩))
            | ((with_reducible refine wl_at (o := ⟨none, .store 3 (.tmp 96) _, _, _, _, _⟩) ?_); go_must (refine wl_storeK (v := .int .i64 sn) hK rfl rfl rfl rfl (sizT (by decide)) rfl (hk := by simp [R18.cells, ConfV.cells, Pose.cells, Go.Sk.Move.cells]) (h := ?_); clear hK; intro w' hK; replace hK : Know w w' S [rBlk b3 (Tele.cells t) 43, rBlk q (R18.cells c ⟨0, pose, load, t.epoch, 0, true, { mv with n := sn }, gl, gt, delay, true, false⟩) 70] [rConf c] := hK))
            | ((with_reducible refine wl_at (o := ⟨some 103, .load _ _, _, _, _, _⟩) ?_); go_must (refine wl_loadPK (Pose.cells mv.src) hK rfl rfl rfl (aggT (by decide)) (h := ?_)))
            | (go_at_call 77; go_must (refine (hK.quiet (kH.out _)).mono ?_; clear hK; rintro e w' ⟨rfl, hK⟩))
            | ((with_reducible refine wl_at (o := ⟨none, .store 39 (.tmp 115) _, _, _, _, _⟩) ?_); go_must (refine wl_storePK (n := 3) (Pose.cells Z) (R18.cells c ⟨0, pose, load, t.epoch, 0, true, { mv with n := sn, dst := Z }, gl, gt, delay, true, false⟩) hK rfl rfl rfl rfl (aggS (by decide)) (pose_one _) (hk := by simp [R18.cells, ConfV.cells, Pose.cells, Go.Sk.Move.cells]) (hc := rfl) (h := ?_); clear hK; intro w' hK; replace hK : Know w w' S [rBlk b3 (Tele.cells t) 43, rBlk q (R18.cells c ⟨0, pose, load, t.epoch, 0, true, { mv with n := sn, dst := Z }, gl, gt, delay, true, false⟩) 70] [rConf c] := hK))
            | ((with_reducible refine wl_at (o := ⟨_, .call { callee := .builtin .min, args := #[_, _], argTypes := _ }, _, _, _, _⟩) ?_); refine wl_min2 rfl rfl rfl rfl ?_)
            | ((with_reducible refine wl_at (o := ⟨_, .call { callee := .builtin .max, args := #[_, _], argTypes := _ }, _, _, _, _⟩) ?_); refine wl_max2 rfl rfl rfl rfl ?_)
            | ((with_reducible refine wl_at (o := ⟨_, .call { callee := .builtin .min, args := #[_, _, _], argTypes := _ }, _, _, _, _⟩) ?_); refine wl_min3 rfl rfl rfl rfl rfl ?_)
            | ((with_reducible refine wl_at (o := ⟨none, .store 3 (.tmp 120) _, _, _, _, _⟩) ?_); go_must (refine wl_storeK (v := .int .i64 (max 1 sk)) hK rfl rfl rfl rfl (sizT (by decide)) rfl (hk := by simp [R18.cells, ConfV.cells, Pose.cells, Go.Sk.Move.cells]) (h := ?_); clear hK; intro w' hK; replace hK : Know w w' S [rBlk b3 (Tele.cells t) 43, rBlk q (R18.cells c ⟨0, pose, load, t.epoch, 0, true, { mv with n := sn, dst := Z }, max 1 sk, gt, delay, true, false⟩) 70] [rConf c] := hK))
            | ((with_reducible refine wl_at (o := ⟨none, .store 4 (.tmp 123) _, _, _, _, _⟩) ?_); go_must (refine wl_storeK (v := .bool true) hK rfl rfl rfl rfl (sizT (by decide)) rfl (hk := by simp [R18.cells, ConfV.cells, Pose.cells, Go.Sk.Move.cells]) (h := ?_); clear hK; intro w' hK; replace hK : Know w w' S [rBlk b3 (Tele.cells t) 43, rBlk q (R18.cells c ⟨0, pose, load, t.epoch, 0, true, { mv with n := sn, dst := Z }, max 1 sk, gt, delay, true, true⟩) 70] [rConf c] := hK))
            | go_big_skip
            | ((with_reducible refine wl_at (o := ⟨_, .load _ _, _, _, _, _⟩) ?_)
               first | refine wl_loadK hK rfl rfl rfl (scalT (by decide)) (h := ?_) | refine wl_loadSK hK rfl rfl rfl (aggT (by decide)) (h := ?_))
            | (with_reducible refine atEnd_mk (by kernel_rfl) ?_))
          go_ret2
          exact rfEnd_nil (x := x) (hK.sub (.cons _ (.cons_cons _ .slnil)))
        · have hcut : (⟨mv, gt, gl, gc⟩ : Going).cuts (kinOf c.p) = ⟨mv, gt, gl, gc⟩ := by
            unfold Going.cuts
            rw [if_neg h5]
          rw [hcut] at hv
          have hq : (mv.kind == 1) = false ∨ ((mv.kind == 1) = true ∧ gc = true) := by
            by_cases e : mv.kind = 1
            · exact .inr ⟨beq_iff_eq.2 e, by cases gc with | false => exact absurd ⟨e, rfl⟩ h5 | true => rfl⟩
            · exact .inl (beq_eq_false_iff_ne.2 e)
          clear hcut h5 g5
          subst hv
          rcases hq with dk | ⟨dk, rfl⟩
          · skip
            go_enter Tryz.func63, Tryz.ntmps63
            go_wp2_with (first
              | ((with_reducible refine wl_at (o := ⟨some 3, .box _ _, _, _, _, _⟩) ?_)
                 go_must (refine wl_boxK hK rfl rfl rfl rfl ?_; clear hK; intro w3 b3 hK))
              | ((with_reducible refine wp_region_textK (id := 1) hK (by kernel_rfl) (by kernel_rfl) ?_); clear hK; intro w' hK)
              | ((with_reducible refine wp_region_textK (id := 3) hK (by kernel_rfl) (by kernel_rfl) ?_); clear hK; intro w' hK)
              | ((with_reducible refine wl_at (o := ⟨none, .store 3 (.tmp 47) _, _, _, _, _⟩) ?_); go_must (refine wl_storeK (v := .int .i64 t.epoch) hK rfl rfl rfl rfl (sizT (by decide)) rfl (hk := by simp [R18.cells, ConfV.cells, Pose.cells, Go.Sk.Move.cells]) (h := ?_); clear hK; intro w' hK; replace hK : Know w w' S [rBlk b3 (Tele.cells t) 43, rBlk q (R18.cells c ⟨0, pose, load, t.epoch, num, true, mv, gl, gt, delay, stopping, gc⟩) 70] [rConf c] := hK))
              | ((with_reducible refine wl_at (o := ⟨none, .store 3 (.tmp 50) _, _, _, _, _⟩) ?_); go_must (refine wl_storeK (v := .int .i64 0) hK rfl rfl rfl rfl (sizT (by decide)) rfl (hk := by simp [R18.cells, ConfV.cells, Pose.cells, Go.Sk.Move.cells]) (h := ?_); clear hK; intro w' hK; replace hK : Know w w' S [rBlk b3 (Tele.cells t) 43, rBlk q (R18.cells c ⟨0, pose, load, t.epoch, 0, true, mv, gl, gt, delay, stopping, gc⟩) 70] [rConf c] := hK))
              | ((with_reducible refine wl_at (o := ⟨none, .store 4 (.tmp 60) _, _, _, _, _⟩) ?_); go_must (refine wl_storeK (v := .bool true) hK rfl rfl rfl rfl (sizT (by decide)) rfl (hk := by simp [R18.cells, ConfV.cells, Pose.cells, Go.Sk.Move.cells]) (h := ?_); clear hK; intro w' hK; replace hK : Know w w' S [rBlk b3 (Tele.cells t) 43, rBlk q (R18.cells c ⟨0, pose, load, t.epoch, 0, true, mv, gl, gt, delay, true, gc⟩) 70] [rConf c] := hK))
              | go_big_skip
              | ((with_reducible refine wl_at (o := ⟨_, .load _ _, _, _, _, _⟩) ?_)
                 first | refine wl_loadK hK rfl rfl rfl (scalT (by decide)) (h := ?_) | refine wl_loadSK hK rfl rfl rfl (aggT (by decide)) (h := ?_))
              | (with_reducible refine atEnd_mk (by kernel_rfl) ?_))
            go_ret2
            exact rfEnd_nil (x := x) (hK.sub (.cons _ (.cons_cons _ .slnil)))
          · skip
            go_enter Tryz.func63, Tryz.ntmps63
            go_wp2_with (first
              | ((with_reducible refine wl_at (o := ⟨some 3, .box _ _, _, _, _, _⟩) ?_)
                 go_must (refine wl_boxK hK rfl rfl rfl rfl ?_; clear hK; intro w3 b3 hK))
              | ((with_reducible refine wp_region_textK (id := 1) hK (by kernel_rfl) (by kernel_rfl) ?_); clear hK; intro w' hK)
              | ((with_reducible refine wp_region_textK (id := 3) hK (by kernel_rfl) (by kernel_rfl) ?_); clear hK; intro w' hK)
              | ((with_reducible refine wl_at (o := ⟨none, .store 3 (.tmp 47) _, _, _, _, _⟩) ?_); go_must (refine wl_storeK (v := .int .i64 t.epoch) hK rfl rfl rfl rfl (sizT (by decide)) rfl (hk := by simp [R18.cells, ConfV.cells, Pose.cells, Go.Sk.Move.cells]) (h := ?_); clear hK; intro w' hK; replace hK : Know w w' S [rBlk b3 (Tele.cells t) 43, rBlk q (R18.cells c ⟨0, pose, load, t.epoch, num, true, mv, gl, gt, delay, stopping, true⟩) 70] [rConf c] := hK))
              | ((with_reducible refine wl_at (o := ⟨none, .store 3 (.tmp 50) _, _, _, _, _⟩) ?_); go_must (refine wl_storeK (v := .int .i64 0) hK rfl rfl rfl rfl (sizT (by decide)) rfl (hk := by simp [R18.cells, ConfV.cells, Pose.cells, Go.Sk.Move.cells]) (h := ?_); clear hK; intro w' hK; replace hK : Know w w' S [rBlk b3 (Tele.cells t) 43, rBlk q (R18.cells c ⟨0, pose, load, t.epoch, 0, true, mv, gl, gt, delay, stopping, true⟩) 70] [rConf c] := hK))
              | ((with_reducible refine wl_at (o := ⟨none, .store 4 (.tmp 60) _, _, _, _, _⟩) ?_); go_must (refine wl_storeK (v := .bool true) hK rfl rfl rfl rfl (sizT (by decide)) rfl (hk := by simp [R18.cells, ConfV.cells, Pose.cells, Go.Sk.Move.cells]) (h := ?_); clear hK; intro w' hK; replace hK : Know w w' S [rBlk b3 (Tele.cells t) 43, rBlk q (R18.cells c ⟨0, pose, load, t.epoch, 0, true, mv, gl, gt, delay, true, true⟩) 70] [rConf c] := hK))
              | go_big_skip
              | ((with_reducible refine wl_at (o := ⟨_, .load _ _, _, _, _, _⟩) ?_)
                 first | refine wl_loadK hK rfl rfl rfl (scalT (by decide)) (h := ?_) | refine wl_loadSK hK rfl rfl rfl (aggT (by decide)) (h := ?_))
              | (with_reducible refine atEnd_mk (by kernel_rfl) ?_))
            go_ret2
            exact rfEnd_nil (x := x) (hK.sub (.cons _ (.cons_cons _ .slnil)))
      · rw [if_neg h2, if_pos (.inr (.inl rfl))] at hv
        have he : epoch = t.epoch := by omega
        subst he
        have d1 : decide (t.epoch < t.epoch) = false := decide_eq_false (by omega)
        by_cases h3 : 0 < t.epoch
        · have d3 : decide (0 < t.epoch) = true := decide_eq_true h3
          subst hv
          go_enter Tryz.func63, Tryz.ntmps63
          go_wp2_with (first
            | ((with_reducible refine wl_at (o := ⟨some 3, .box _ _, _, _, _, _⟩) ?_)
               go_must (refine wl_boxK hK rfl rfl rfl rfl ?_; clear hK; intro w3 b3 hK))
            | ((with_reducible refine wp_region_textK (id := 1) hK (by kernel_rfl) (by kernel_rfl) ?_); clear hK; intro w' hK)
            | ((with_reducible refine wp_region_textK (id := 3) hK (by kernel_rfl) (by kernel_rfl) ?_); clear hK; intro w' hK)
            | go_big_skip
            | ((with_reducible refine wl_at (o := ⟨_, .load _ _, _, _, _, _⟩) ?_)
               first | refine wl_loadK hK rfl rfl rfl (scalT (by decide)) (h := ?_) | refine wl_loadSK hK rfl rfl rfl (aggT (by decide)) (h := ?_))
            | (with_reducible refine atEnd_mk (by kernel_rfl) ?_))
          go_ret2
          exact rfEnd_nil (x := x) (hK.sub (.cons _ (.cons_cons _ .slnil)))
        · have d3 : decide (0 < t.epoch) = false := decide_eq_false h3
          subst hv
          go_enter Tryz.func63, Tryz.ntmps63
          go_wp2_with (first
            | ((with_reducible refine wl_at (o := ⟨some 3, .box _ _, _, _, _, _⟩) ?_)
               go_must (refine wl_boxK hK rfl rfl rfl rfl ?_; clear hK; intro w3 b3 hK))
            | ((with_reducible refine wp_region_textK (id := 1) hK (by kernel_rfl) (by kernel_rfl) ?_); clear hK; intro w' hK)
            | ((with_reducible refine wp_region_textK (id := 3) hK (by kernel_rfl) (by kernel_rfl) ?_); clear hK; intro w' hK)
            | go_big_skip
            | ((with_reducible refine wl_at (o := ⟨_, .load _ _, _, _, _, _⟩) ?_)
               first | refine wl_loadK hK rfl rfl rfl (scalT (by decide)) (h := ?_) | refine wl_loadSK hK rfl rfl rfl (aggT (by decide)) (h := ?_))
            | (with_reducible refine atEnd_mk (by kernel_rfl) ?_))
          go_ret2
          exact rfEnd_nil (x := x) (hK.sub (.cons _ (.cons_cons _ .slnil)))

/-- A telegram is heard by a reference's robot among one's own things. -/
theorem hearsF {c : ConfV} {q k : Nat} {r : RM} {v : RM × List Tele × Int} {f : FuncId} {args : Array Value} {w0 w : World} {F : Nat → Prop} {M L : List Res} (h : Know w0 w F M L) (hi : Ix M (rRF c q r) k) (hs : rConf c ∈ L)
    (hc : ∀ S, Know w w S [rRF c q r] [rConf c] → Calls Tryz.prog f args w (rfEnd c q v w S)) : Calls Tryz.prog f args w fun e w' => ∃ ad cap, e = .returned (.tuple #[.slice ad v.2.1.length cap, .int .i64 v.2.2]) ∧
      Know w0 w' F (rOw 43 elTele (.slice ad v.2.1.length cap) v.2.1 :: M.set k (rRF c q v.1)) L := by
  obtain ⟨A, B, rfl, hset⟩ := hi.hole
  have h1 : Know w0 w F ([rRF c q r] ++ (A ++ B)) L := h.perm List.perm_middle
  obtain ⟨S1, hKS, back⟩ := Know.focus h1
  refine (hc S1 (hKS.subL (by simpa using hs))).mono ?_
  rintro e w' ⟨ad, cap, rfl, hT⟩
  refine ⟨ad, cap, rfl, ?_⟩
  rw [hset]
  exact (back _ _ hT).perm (List.Perm.cons _ (show (rRF c q v.1 :: (A ++ B)).Perm (A ++ rRF c q v.1 :: B) from List.perm_middle.symm))
theorem Has.rfI {c : ConfV} {q : Nat} {r : RM} {w : World} (h : Has w (rRF c q r)) : At w q 16 [.int .i64 0] := by
  obtain ⟨x, h⟩ := Has.rf h
  exact part_at h.blk (by unfold R18.of; cases r.under <;> rfl)
set_option maxHeartbeats 2000000 in
theorem rf_hear {c : ConfV} {t : Tele} {q : Nat} {r : RM} {n : Int} {w : World} {S : Nat → Prop} {v : RM × List Tele × Int} (hok : RMOk c.p r n) (hn : n ≤ 1000000000) (hz : Sized c) (hko : (kinOf c.p).Ok) (hlt : t.kind = 1 → t.move.at_ < t.move.fin) (hv : r.hear c.p (kinOf c.p) 0 t = v) (h : Know w w S [rRF c q r] [rConf c]) :
    Calls Tryz.prog 54 #[.pointer (some ⟨q, 0, none⟩), .agg t.cells.toArray] w (rfEnd c q v w S) := by
  have hK := h
  unfold RM.hear at hv
  by_cases h0 : t.robot = 0
  rotate_left
  · rw [if_pos h0] at hv
    subst hv
    have d0 : (t.robot != 0) = true := by simpa using h0
    have d0' : decide (t.robot = 0) = false := decide_eq_false h0
    have d0b : (t.robot == 0) = false := beq_eq_false_iff_ne.2 h0
    clear h h0 hok
    go_enter Tryz.func54, Tryz.ntmps54
    go_wp2_with (first
      | ((with_reducible refine wl_at (o := ⟨some 3, .box _ _, _, _, _, _⟩) ?_)
         go_must (refine wl_boxK hK rfl rfl rfl rfl ?_; clear hK; intro w3 b3 hK))
      | ((with_reducible refine wp_region_textK (id := 1) hK (by kernel_rfl) (by kernel_rfl) ?_); clear hK; intro w' hK)
      | ((with_reducible refine wl_at (o := ⟨some 11, .load _ _, _, _, _, _⟩) ?_); refine wl_loadA0 (b := q) (k := 16) (hat := Has.rfI (hK.own (r := rRF c q r))) rfl rfl rfl (scalT (by decide)) (h := ?_))
      | go_big_skip
      | ((with_reducible refine wl_at (o := ⟨_, .load _ _, _, _, _, _⟩) ?_)
         first | refine wl_loadK hK rfl rfl rfl (scalT (by decide)) (h := ?_) | refine wl_loadSK hK rfl rfl rfl (aggT (by decide)) (h := ?_))
      | (with_reducible refine atEnd_mk (by kernel_rfl) ?_))
    go_ret2
    exact ⟨none, 0, rfl, ((hK.sub (.cons _ (.cons_cons _ .slnil))).nil 43 elTele).turns⟩
  rw [if_neg (by simpa using h0)] at hv
  have d0 : (t.robot != 0) = false := by simpa using h0
  have d0b : (t.robot == 0) = true := beq_iff_eq.2 h0
  by_cases h1 : t.kind = 1
  · rw [if_pos h1] at hv
    have kG := Lib.hid (fun (W : World) (S : Nat → Prop) (h : Know W W S [rRF c q r] [rConf c]) => rf_goes hok hn hz (hlt h1) hv h)
    have d1 : (t.kind == 1) = true := beq_iff_eq.2 h1
    have d1' : decide (t.kind = 1) = true := decide_eq_true h1
    clear h h0 h1 hok hv
    go_enter Tryz.func54, Tryz.ntmps54
    go_wp2_with (first
      | ((with_reducible refine wl_at (o := ⟨some 3, .box _ _, _, _, _, _⟩) ?_)
         go_must (refine wl_boxK hK rfl rfl rfl rfl ?_; clear hK; intro w3 b3 hK))
      | ((with_reducible refine wp_region_textK (id := 1) hK (by kernel_rfl) (by kernel_rfl) ?_); clear hK; intro w' hK)
      | ((with_reducible refine wl_at (o := ⟨some 11, .load _ _, _, _, _, _⟩) ?_); refine wl_loadA0 (b := q) (k := 16) (hat := Has.rfI (hK.own (r := rRF c q r))) rfl rfl rfl (scalT (by decide)) (h := ?_))
      | (go_at_call 62; go_must (refine (hearsF hK (by repeat (first | exact Ix.head | apply Ix.tail)) (by simp) (fun S hS => kG.out _ S hS)).mono ?_; clear hK; rintro e w' ⟨adt, cpt, rfl, hK⟩; simp only [List.set_cons_zero, List.set_cons_succ] at hK))
      | go_big_skip
      | ((with_reducible refine wl_at (o := ⟨_, .load _ _, _, _, _, _⟩) ?_)
         first | refine wl_loadK hK rfl rfl rfl (scalT (by decide)) (h := ?_) | refine wl_loadSK hK rfl rfl rfl (aggT (by decide)) (h := ?_))
      | (with_reducible refine atEnd_mk (by kernel_rfl) ?_))
    go_ret2
    exact ⟨adt, cpt, rfl, (hK.sub (.cons_cons _ (.cons _ (.cons_cons _ .slnil)))).turns⟩
  · rw [if_neg h1] at hv
    have d1 : (t.kind == 1) = false := beq_eq_false_iff_ne.2 h1
    have d1' : decide (t.kind = 1) = false := decide_eq_false h1
    by_cases h2 : t.kind = 2
    · rw [if_pos h2] at hv
      have kG := Lib.hid (fun (W : World) (S : Nat → Prop) (h : Know W W S [rRF c q r] [rConf c]) => rf_stops hok hko hv h)
      have d2 : (t.kind == 2) = true := beq_iff_eq.2 h2
      have d2' : decide (t.kind = 2) = true := decide_eq_true h2
      clear h h0 h1 h2 hok hv
      go_enter Tryz.func54, Tryz.ntmps54
      go_wp2_with (first
        | ((with_reducible refine wl_at (o := ⟨some 3, .box _ _, _, _, _, _⟩) ?_)
           go_must (refine wl_boxK hK rfl rfl rfl rfl ?_; clear hK; intro w3 b3 hK))
        | ((with_reducible refine wp_region_textK (id := 1) hK (by kernel_rfl) (by kernel_rfl) ?_); clear hK; intro w' hK)
        | ((with_reducible refine wl_at (o := ⟨some 11, .load _ _, _, _, _, _⟩) ?_); refine wl_loadA0 (b := q) (k := 16) (hat := Has.rfI (hK.own (r := rRF c q r))) rfl rfl rfl (scalT (by decide)) (h := ?_))
        | (go_at_call 63; go_must (refine (hearsF hK (by repeat (first | exact Ix.head | apply Ix.tail)) (by simp) (fun S hS => kG.out _ S hS)).mono ?_; clear hK; rintro e w' ⟨adt, cpt, rfl, hK⟩; simp only [List.set_cons_zero, List.set_cons_succ] at hK))
        | go_big_skip
        | ((with_reducible refine wl_at (o := ⟨_, .load _ _, _, _, _, _⟩) ?_)
           first | refine wl_loadK hK rfl rfl rfl (scalT (by decide)) (h := ?_) | refine wl_loadSK hK rfl rfl rfl (aggT (by decide)) (h := ?_))
        | (with_reducible refine atEnd_mk (by kernel_rfl) ?_))
      go_ret2
      exact ⟨adt, cpt, rfl, (hK.sub (.cons_cons _ (.cons _ (.cons_cons _ .slnil)))).turns⟩
    · rw [if_neg h2] at hv
      subst hv
      have d2 : (t.kind == 2) = false := beq_eq_false_iff_ne.2 h2
      have d2' : decide (t.kind = 2) = false := decide_eq_false h2
      clear h h0 h1 h2 hok
      go_enter Tryz.func54, Tryz.ntmps54
      go_wp2_with (first
        | ((with_reducible refine wl_at (o := ⟨some 3, .box _ _, _, _, _, _⟩) ?_)
           go_must (refine wl_boxK hK rfl rfl rfl rfl ?_; clear hK; intro w3 b3 hK))
        | ((with_reducible refine wp_region_textK (id := 1) hK (by kernel_rfl) (by kernel_rfl) ?_); clear hK; intro w' hK)
        | ((with_reducible refine wl_at (o := ⟨some 11, .load _ _, _, _, _, _⟩) ?_); refine wl_loadA0 (b := q) (k := 16) (hat := Has.rfI (hK.own (r := rRF c q r))) rfl rfl rfl (scalT (by decide)) (h := ?_))
        | go_big_skip
        | ((with_reducible refine wl_at (o := ⟨_, .load _ _, _, _, _, _⟩) ?_)
           first | refine wl_loadK hK rfl rfl rfl (scalT (by decide)) (h := ?_) | refine wl_loadSK hK rfl rfl rfl (aggT (by decide)) (h := ?_))
        | (with_reducible refine atEnd_mk (by kernel_rfl) ?_))
      go_ret2
      exact ⟨none, 0, rfl, ((hK.sub (.cons _ (.cons_cons _ .slnil))).nil 43 elTele).turns⟩

end Go.Proofs.YtcjpnlplibaffaaGreatDoor
