/- WorldBad. -/
import Derived.Test.YtngeeilkpnihmaaGreatDoorWb2Q
import Derived.Test.YtngeeilkpnihmaaGreatDoorWdaQ
import Derived.Test.YtngeeilkpnihmaaGreatDoorComQ
set_option linter.all false
namespace Go.Proofs.YtngeeilkpnihmaaGreatDoor
open Go Go.Sk Go.RowKit
set_option maxRecDepth 100000

theorem wb_three {l : List Sight} {a b c : Int × Int} (h : l.map (fun x => (x.kind, x.bin)) = [a, b, c]) : ∃ s0 s1 s2 : Sight, l = [s0, s1, s2] ∧ s1.kind = b.1 ∧ s1.bin = b.2 ∧ s2.kind = c.1 := by
  rcases l with _ | ⟨x, _ | ⟨y, _ | ⟨z, _ | ⟨u, l⟩⟩⟩⟩
  · simp at h
  · simp at h
  · simp at h
  · rw [List.map_cons, List.map_cons, List.map_cons, List.map_nil] at h
    injection h with h1 h
    injection h with h2 h
    injection h with h3 h
    subst h1 h2 h3
    exact ⟨x, y, z, rfl, rfl, rfl, rfl⟩
  · simp at h
theorem wb_oneL {l : List RM} {a : Int} (h : l.map (fun r => r.load) = [a]) : ∃ r : RM, l = [r] ∧ r.load = a := by
  rcases l with _ | ⟨x, _ | ⟨u, l⟩⟩
  · simp at h
  · rw [List.map_cons, List.map_nil] at h
    injection h with h1 h
    exact ⟨x, rfl, h1⟩
  · simp at h
set_option maxHeartbeats 16000000 in
theorem wbad_calls {wh ho : Int} {w : World} (hst : Has w stepsR) (_h1 : -9223372036854775808 ≤ wh ∧ wh ≤ 9223372036854775807) (_h2 : -9223372036854775808 ≤ ho ∧ ho ≤ 9223372036854775807) :
    Calls Tryz.prog 5 #[.int .i64 wh, .int .i64 ho] w (Ret (.bool true) w) := by
  have hK : Know w w none' [] [stepsR] := Know.start (L := [stepsR]) w (by simpa using hst)
  clear hst
  obtain ⟨j, hjj⟩ : ∃ j : Nat, ho % 20 = (j : Int) := ⟨(ho % 20).toNat, by omega⟩
  have hj : j < 20 := by omega
  obtain ⟨q, hq⟩ : ∃ q, wh % 3 = q := ⟨_, rfl⟩
  have kPh := Lib.hid (fun (W : World) => show Calls Tryz.prog 15 #[.int .i64 ho, .int .i64 20] W (Ret (.int .i64 (j : Int)) W) from
    (Place_calls ho 20 W (by omega) (by omega)).mono fun e w' h => ⟨by rw [h.1, hjj], by rw [h.2]; exact Mod.refl _ _⟩)
  have kPw := Lib.hid (fun (W : World) => show Calls Tryz.prog 15 #[.int .i64 wh, .int .i64 3] W (Ret (.int .i64 q) W) from
    (Place_calls wh 3 W (by omega) (by omega)).mono fun e w' h => ⟨by rw [h.1, hq], by rw [h.2]; exact Mod.refl _ _⟩)
  have hq3 : q = 0 ∨ q = 1 ∨ q = 2 := by omega
  clear hq hjj
  by_cases h0 : q = 0
  · subst h0
    clear hq3
    have hM : MayP (wbP true (1 + (j : Int))) := wb_may0 true ⟨j, hj⟩
    have mid := fun (i : Nat) (hi : i < 21) => (show (wb1 true (1 + (j : Int)) i).l.length ≤ 90000000 ∧ (wb1 true (1 + (j : Int)) i).rs.length ≤ 64 ∧ 0 ≤ (wb1 true (1 + (j : Int)) i).now ∧ (wb1 true (1 + (j : Int)) i).now ≤ 1000000000 from wb_mid0 true ⟨j, hj⟩ ⟨i, hi⟩)
    obtain ⟨fin1, fin2, fin3, fin4⟩ := (show (wb1 true (1 + (j : Int)) (j + 1)).l.map (fun x => (x.kind, x.bin)) = [(1, 0), (8, 0), (2, 0)] ∧ (wb1 true (1 + (j : Int)) (j + 1)).rs.map (fun r => r.load) = [0] ∧ (wb1 true (1 + (j : Int)) (j + 1)).s.bins (wbP true (1 + (j : Int))) = (wb0 true (1 + (j : Int))).s.bins (wbP true (1 + (j : Int))) ∧ ((wb0 true (1 + (j : Int))).s.bins (wbP true (1 + (j : Int)))).length ≤ 1000 from wb_end0 true ⟨j, hj⟩)
    obtain ⟨m6, hm6⟩ : ∃ m6, (wb1 true (1 + (j : Int)) (j + 1)) = m6 := ⟨_, rfl⟩
    rw [hm6] at fin1 fin2 fin3
    obtain ⟨B, hB⟩ : ∃ B, (wb0 true (1 + (j : Int))).s.bins (wbP true (1 + (j : Int))) = B := ⟨_, rfl⟩
    rw [hB] at fin3 fin4
    obtain ⟨⟨i0, c0, r0, b0', p0, m0⟩, ⟨i1, c1, r1, b1', p1, m1⟩, ⟨i2, c2, r2, b2', p2, m2⟩, hl, e1, e2, e3⟩ := wb_three fin1
    simp only at e1 e2 e3
    subst e1 e2 e3
    obtain ⟨rr, hr, hr0⟩ := wb_oneL fin2
    have kNew := Lib.hid (fun (W : World) (r s b : Option Addr) (h1 : Has W (rOw 36 elPose (.slice r 1 1) [poseO])) (h2 : Has W (rOw 3 elInt (.slice b 1 1) [7])) (h3 : Has W (rOw 85 elStack (.slice s 1 1) [(⟨⟨2, 0⟩, ⟨b, [7], 1⟩⟩ : StackV)])) (h4 : Has W stepsR) => (show Calls Tryz.prog 16 #[.agg (wbV true (1 + (j : Int)) r s b).cells.toArray] W fun e w' => ∃ wp, e = .returned (.tuple #[.pointer (some ⟨wp, 0, none⟩), .int .i64 0]) ∧ Turn (rWLD (wbP true (1 + (j : Int))) wp (wb0 true (1 + (j : Int)))) W w' none' from by
      have := w_new (c := wbV true (1 + (j : Int)) r s b) (by rw [wb_p]; exact hM) (wb_has h1 h2 h3) h4 (wb_sized _ _ _ _ _) (wb_wf _ _ _ _ _)
      rw [wb_p] at this
      exact this))
    have kH := Lib.hid (fun (wp : Nat) (W : World) (S : Nat → Prop) (h : Know W W S [rWLD (wbP true (1 + (j : Int))) wp (wb0 true (1 + (j : Int)))] [stepsR]) => w_hear (t := wbT true (1 + (j : Int))) (v := ((wb1 true (1 + (j : Int)) 0), ((wb0 true (1 + (j : Int))).hear (wbP true (1 + (j : Int))) (wbT true (1 + (j : Int)))).2)) (wb_ok0 true _) (by omega) (show (0 : Int) ≤ 9223372036854775807 by omega) (by show (0 : Nat) ≤ 90000000; omega) (by show (1 : Nat) ≤ 64; omega) rfl h)
    have kT := Lib.hid (fun (i : Nat) (hi : i ≤ j) (wp : Nat) (W : World) (S : Nat → Prop) (h : Know W W S [rWLD (wbP true (1 + (j : Int))) wp (wb1 true (1 + (j : Int)) i)] [stepsR]) => (show Calls Tryz.prog 19 #[.pointer (some ⟨wp, 0, none⟩)] W fun e w' => ∃ ad cap, e = .returned (.slice ad ((wb1 true (1 + (j : Int)) i).tick (wbP true (1 + (j : Int)))).2.length cap) ∧ Turns [rOw 58 elTele (.slice ad ((wb1 true (1 + (j : Int)) i).tick (wbP true (1 + (j : Int)))).2.length cap) ((wb1 true (1 + (j : Int)) i).tick (wbP true (1 + (j : Int)))).2, rWLD (wbP true (1 + (j : Int))) wp (wb1 true (1 + (j : Int)) (i + 1))] W w' S from w_tick (wb_ok1 hM i) (by omega) (mid i (by omega)).1 (mid i (by omega)).2.1 (mid i (by omega)).2.2 (h.subL (by simp))))
    have kS := Lib.hid (fun (wp : Nat) (W : World) (h : Has W (rWLD (wbP true (1 + (j : Int))) wp m6)) => (show Calls Tryz.prog 11 #[.pointer (some ⟨wp, 0, none⟩)] W fun e w' => ∃ ad cap, e = .returned (.slice ad 3 cap) ∧ Turn (rOw 43 elSight (.slice ad 3 cap) [(⟨i0, c0, r0, b0', p0, m0⟩ : Sight), ⟨8, c1, r1, 0, p1, m1⟩, ⟨2, c2, r2, b2', p2, m2⟩]) W w' none' from by
      have := w_sights h (by rw [hl]; show (3 : Nat) ≤ 100000000; omega)
      rw [hl] at this
      exact this))
    have kR := Lib.hid (fun (wp : Nat) (W : World) (h : Has W (rWLD (wbP true (1 + (j : Int))) wp m6)) => (show Calls Tryz.prog 20 #[.pointer (some ⟨wp, 0, none⟩), .int .i64 0] W (Ret (.tuple #[.agg rr.pose.cells.toArray, .int .i64 0, .bool true]) W) from by
      have := w_rob (k := 0) (by rw [hr]; show (1 : Nat) ≤ 64; omega) (by rw [hr]; rfl) h
      rw [hr0] at this
      exact this))
    have kB0 := Lib.hid (fun (wp : Nat) (W : World) (h : Has W (rWLD (wbP true (1 + (j : Int))) wp (wb0 true (1 + (j : Int))))) => (show Calls Tryz.prog 17 #[.pointer (some ⟨wp, 0, none⟩)] W fun e w' => ∃ ad n cap, e = .returned (.slice ad n cap) ∧ Turn (rOw 3 elInt (.slice ad n cap) B) W w' none' from by
      have := w_bins h
      rw [hB] at this
      exact this))
    have kB1 := Lib.hid (fun (wp : Nat) (W : World) (h : Has W (rWLD (wbP true (1 + (j : Int))) wp m6)) => (show Calls Tryz.prog 17 #[.pointer (some ⟨wp, 0, none⟩)] W fun e w' => ∃ ad n cap, e = .returned (.slice ad n cap) ∧ Turn (rOw 3 elInt (.slice ad n cap) B) W w' none' from by
      have := w_bins h
      rw [fin3] at this
      exact this))
    have HM6 := Lib.hid hm6
    have H1 := Lib.hid (show [(⟨i0, c0, r0, b0', p0, m0⟩ : Sight), ⟨8, c1, r1, 0, p1, m1⟩, ⟨2, c2, r2, b2', p2, m2⟩][1]? = some ⟨8, c1, r1, 0, p1, m1⟩ from rfl)
    have H2 := Lib.hid (show [(⟨i0, c0, r0, b0', p0, m0⟩ : Sight), ⟨8, c1, r1, 0, p1, m1⟩, ⟨2, c2, r2, b2', p2, m2⟩][2]? = some ⟨2, c2, r2, b2', p2, m2⟩ from rfl)
    have hB4 : B.length ≤ 9223372036854775807 := by omega
    clear mid fin1 fin2 fin3 fin4 hm6 hB hl hr hr0
    go_enter Tryz.func5, Tryz.ntmps5
    go_wp2_with (first
      | (go_at_call 14; go_must (refine w9_conf.mono ?_; rintro e w' ⟨ra, sa, ba, rfl, hT⟩; replace hK := hK.push hT; simp only [List.cons_append, List.nil_append] at hK; clear hT))
      | ((with_reducible refine wl_at (o := ⟨some 5, .alloc _, _, _, _, _⟩) ?_)
         go_must (refine wl_allocK (z := .agg (confZ19).toArray) (zs := confZ19) hK rfl rfl (by kernel_rfl) rfl ?_; clear hK; intro w5 b5 hK))
      | ((with_reducible refine wl_at (o := ⟨none, .store 26 _ _, _, _, _, _⟩) ?_)
         go_must (refine wl_storeWK (vs := ConfV.cells (w9V ra sa ba)) hK rfl rfl rfl rfl (aggS (by decide)) (w9_one _ _ _) (h := ?_); clear hK; intro w' hK; simp only [List.set_cons_zero, List.set_cons_succ] at hK))
      | (go_at_call 15; go_must (first | (with_reducible refine (hK.quiet (kPh.out _)).mono ?_; clear hK; rintro e w' ⟨rfl, hK⟩) | (with_reducible refine (hK.quiet (kPw.out _)).mono ?_; clear hK; rintro e w' ⟨rfl, hK⟩)))
      | ((with_reducible refine wl_at (o := ⟨none, .store 3 _ _, _, _, _, _⟩) ?_); go_must (refine wl_storeK hK rfl rfl rfl rfl (sizT (by decide)) rfl (hk := by simp [ConfV.cells, w9V]) (h := ?_); clear hK; intro w' hK; replace hK : Know w w' none' [rBlk b5 (ConfV.cells (wbV false (1 + (j : Int)) ra sa ba)) 26, rOw 85 elStack (.slice sa 1 1) [(⟨⟨2, 0⟩, ⟨ba, [7], 1⟩⟩ : StackV)], rOw 3 elInt (.slice ba 1 1) [7], rOw 36 elPose (.slice ra 1 1) [poseO]] [stepsR] := hK))
      | ((with_reducible refine wl_at (o := ⟨none, .store 24 _ _, _, _, _, _⟩) ?_); go_must (refine wl_storeK hK rfl rfl rfl rfl (sizT (by decide)) rfl (hk := by simp [ConfV.cells, wbV]) (h := ?_); clear hK; intro w' hK; replace hK : Know w w' none' [rBlk b5 (ConfV.cells (wbV true (1 + (j : Int)) ra sa ba)) 26, rOw 85 elStack (.slice sa 1 1) [(⟨⟨2, 0⟩, ⟨ba, [7], 1⟩⟩ : StackV)], rOw 3 elInt (.slice ba 1 1) [7], rOw 36 elPose (.slice ra 1 1) [poseO]] [stepsR] := hK))
      | (go_at_call 16; go_must (refine (kNew.out _ ra sa ba hK.own hK.own hK.own hK.lent).mono ?_; rintro e w' ⟨wp, rfl, hT⟩; replace hK := hK.push1 hT; replace hK := hK.sub (M' := [rWLD (wbP true (1 + (j : Int))) wp (wb0 true (1 + (j : Int))), rBlk b5 (ConfV.cells (wbV true (1 + (j : Int)) ra sa ba)) 26]) (.cons_cons _ (.cons_cons _ (.cons _ (.cons _ (.cons _ .slnil))))); clear hT))
      | (go_at_call 17; go_must (first | (with_reducible refine (kB0.out wp _ hK.own).mono ?_; rintro e w' ⟨adB, nB, cB, rfl, hT⟩; replace hK := hK.push1 hT; clear hT) | (with_reducible refine (kB1.out wp _ hK.own).mono ?_; rintro e w' ⟨adE, nE, cE, rfl, hT⟩; replace hK := hK.push1 hT; clear hT)))
      | ((with_reducible refine wl_at (o := ⟨some 40, _, _, _, _, _⟩) ?_); go_must (refine wl_pure (v := .int .i64 0) rfl (fun W => by kernel_rfl) ?_))
      | ((with_reducible refine wl_at (o := ⟨some 44, _, _, _, _, _⟩) ?_); go_must (refine wl_pure (v := .agg (Go.Sk.Move.cells (wbM true (1 + (j : Int)))).toArray) rfl (fun W => by kernel_rfl) ?_))
      | ((with_reducible refine wl_at (o := ⟨some 47, _, _, _, _, _⟩) ?_); go_must (refine wl_pure (v := .agg (Tele.cells (wbT true (1 + (j : Int)))).toArray) rfl (fun W => by kernel_rfl) ?_))
      | ((with_reducible refine wl_at (o := ⟨some 10, .alloc _, _, _, _, _⟩) ?_)
         go_must (refine wl_allocK (z := .agg (Go.Sk.Move.cells mvZ).toArray) (zs := Go.Sk.Move.cells mvZ) hK rfl rfl (by kernel_rfl) rfl ?_; clear hK; intro w10 b10 hK))
      | ((with_reducible refine wl_at (o := ⟨none, .store 38 _ _, _, _, _, _⟩) ?_)
         go_must (refine wl_storeWK (vs := Go.Sk.Move.cells (wbM true (1 + (j : Int)))) hK rfl rfl rfl rfl (aggS (by decide)) (move_one _) (h := ?_); clear hK; intro w' hK; simp only [List.set_cons_zero, List.set_cons_succ] at hK))
      | (go_at_call 18; replace hK := hK.order [0, 2, 1]; simp only [List.filterMap_cons, List.filterMap_nil, List.getElem?_cons_succ, List.getElem?_cons_zero, List.length_cons, List.length_nil, Nat.reduceAdd, List.drop_succ_cons, List.drop_zero, List.cons_append, List.nil_append] at hK; go_must (with_reducible refine (calls_wx hK (by simp) (fun S hS => kH.out wp _ S hS)).mono ?_; clear hK; rintro e w' ⟨ad1, cp1, rfl, hK⟩; replace hK := hK.sub (.cons_cons _ (.cons_cons _ (.cons _ (List.Sublist.refl _))))))
      | go_big_skip
      | ((with_reducible refine wl_at (o := ⟨_, .load _ _, _, _, _, _⟩) ?_)
         first
           | refine wl_loadK hK rfl rfl rfl (scalT (by decide)) (h := ?_)
           | refine wl_loadSK hK rfl rfl rfl (aggT (by decide)) (h := ?_)
           | refine wl_loadA0 rfl rfl rfl (scalT (by decide)) (h := ?_)
           | refine wl_loadA rfl rfl rfl (scalT (by decide)) (h := ?_)
           | refine wl_loadSA rfl rfl rfl (aggT (by decide)) (h := ?_))
      | (with_reducible refine atEnd_mk (by kernel_rfl) ?_))
    go_loopg [11] (j + 1) (fun k t11 wr => ∃ i : Nat, t11 = .int .i64 (i : Int) ∧ k = j + 1 - i ∧ i ≤ j + 1 ∧ Know w wr none' [rBlk b10 (Go.Sk.Move.cells (wbM true (1 + (j : Int)))) 38, rWLD (wbP true (1 + (j : Int))) wp (wb1 true (1 + (j : Int)) i), rOw 3 elInt (.slice adB nB cB) B, rBlk b5 (ConfV.cells (wbV true (1 + (j : Int)) ra sa ba)) 26] [stepsR])
    case atStart => exact ⟨0, rfl, by omega, by omega, hK⟩
    case round =>
      clear hK
      obtain ⟨i, rfl, rfl, hi, hK⟩ := hrel
      by_cases hlt : i < j + 1
      · have d1 : decide ((i : Int) < (wbV true (1 + (j : Int)) ra sa ba).hoist) = true := decide_eq_true (show (i : Int) < 1 + (j : Int) by omega)
        go_wp2_with (first
          | (go_at_call 19; go_must (with_reducible refine (calls_wx hK (by simp) (fun S hS => kT.out i (by omega) wp _ S hS)).mono ?_; clear hK; rintro e w' ⟨ad2, cp2, rfl, hK⟩; replace hK := hK.sub (.cons_cons _ (.cons_cons _ (.cons _ (List.Sublist.refl _))))))
          | go_big_skip
          | ((with_reducible refine wl_at (o := ⟨_, .load _ _, _, _, _, _⟩) ?_)
             first
               | refine wl_loadK hK rfl rfl rfl (scalT (by decide)) (h := ?_)
               | refine wl_loadSK hK rfl rfl rfl (aggT (by decide)) (h := ?_)
               | refine wl_loadA0 rfl rfl rfl (scalT (by decide)) (h := ?_)
               | refine wl_loadA rfl rfl rfl (scalT (by decide)) (h := ?_)
               | refine wl_loadSA rfl rfl rfl (aggT (by decide)) (h := ?_))
          | (with_reducible refine atEnd_mk (by kernel_rfl) ?_))
        go_roundg (j + 1 - (i + 1))
        case measure => omega
        case rel => exact ⟨i + 1, by go_num, rfl, by omega, hK⟩
      · obtain rfl : i = j + 1 := by omega
        have d1 : decide (((j + 1 : Nat) : Int) < (wbV true (1 + (j : Int)) ra sa ba).hoist) = false := decide_eq_false (show ¬ ((j + 1 : Nat) : Int) < 1 + (j : Int) by omega)
        have d2 : decide ((j : Int) + 1 < (wbV true (1 + (j : Int)) ra sa ba).hoist) = false := decide_eq_false (show ¬ (j : Int) + 1 < 1 + (j : Int) by omega)
        rw [HM6.out] at hK
        go_wp2_with (first
          | (go_at_call 11; go_must (refine (kS.out wp _ hK.own).mono ?_; rintro e w' ⟨adS, cpS, rfl, hT⟩; replace hK := hK.push1 hT; clear hT))
          | (go_at_call 20; go_must (refine (hK.quiet (kR.out wp _ hK.own)).mono ?_; clear hK; rintro e w' ⟨rfl, hK⟩))
          | ((with_reducible refine wl_at (o := ⟨some 13, .alloc _, _, _, _, _⟩) ?_)
             go_must (refine wl_allocK (z := .agg (poseZ3).toArray) (zs := poseZ3) hK rfl rfl (by kernel_rfl) rfl ?_; clear hK; intro w13 b13 hK))
          | ((with_reducible refine wl_at (o := ⟨none, .store 36 _ _, _, _, _, _⟩) ?_)
             go_must (refine wl_storeWK (vs := Pose.cells rr.pose) hK rfl rfl rfl rfl (aggS (by decide)) (pose_one _) (h := ?_); clear hK; intro w' hK; simp only [List.set_cons_zero, List.set_cons_succ] at hK))
          | ((with_reducible refine wl_at (o := ⟨some 70, _, _, _, _, _⟩) ?_); go_must (refine wl_ixK (i := 1) (u := (⟨8, c1, r1, 0, p1, m1⟩ : Sight)) hK rfl rfl rfl rfl sightTy.und sightTy.size (hu := H1) (h := ?_); intro b70 k70 hat70))
          | ((with_reducible refine wl_at (o := ⟨some 77, _, _, _, _, _⟩) ?_); go_must (refine wl_ixK (i := 1) (u := (⟨8, c1, r1, 0, p1, m1⟩ : Sight)) hK rfl rfl rfl rfl sightTy.und sightTy.size (hu := H1) (h := ?_); intro b77 k77 hat77))
          | ((with_reducible refine wl_at (o := ⟨some 84, _, _, _, _, _⟩) ?_); go_must (refine wl_ixK (i := 2) (u := (⟨2, c2, r2, b2', p2, m2⟩ : Sight)) hK rfl rfl rfl rfl sightTy.und sightTy.size (hu := H2) (h := ?_); intro b84 k84 hat84))
          | (go_at_call 17; go_must (with_reducible refine (kB1.out wp _ hK.own).mono ?_; rintro e w' ⟨adE, nE, cE, rfl, hT⟩; replace hK := hK.push1 hT; clear hT))
          | (go_at_call 21; go_must (refine (hK.quiet (same_intsW (l := B) (l' := B) (decide_eq_true rfl) hK.rd hK.rd hB4)).mono ?_; clear hK; rintro e w' ⟨rfl, hK⟩))
          | (go_at_call 9; go_must (refine (hK.quiet (awake19 hK.lent)).mono ?_; clear hK; rintro e w' ⟨rfl, hK⟩))
          | go_big_skip
          | ((with_reducible refine wl_at (o := ⟨_, .load _ _, _, _, _, _⟩) ?_)
             first
               | refine wl_loadK hK rfl rfl rfl (scalT (by decide)) (h := ?_)
               | refine wl_loadSK hK rfl rfl rfl (aggT (by decide)) (h := ?_)
               | refine wl_loadA0 rfl rfl rfl (scalT (by decide)) (h := ?_)
               | refine wl_loadA rfl rfl rfl (scalT (by decide)) (h := ?_)
               | refine wl_loadSA rfl rfl rfl (aggT (by decide)) (h := ?_))
          | (with_reducible refine atEnd_mk (by kernel_rfl) ?_))
        go_ret
        exact ⟨rfl, hK.mod⟩
  · have hq2 : q = 1 ∨ q = 2 := by omega
    clear hq3 h0
    rcases hq2 with rfl | rfl
    all_goals
      have hM : MayP (wbP false (1 + (j : Int))) := wb_may0 false ⟨j, hj⟩
      have mid := fun (i : Nat) (hi : i < 21) => (show (wb1 false (1 + (j : Int)) i).l.length ≤ 90000000 ∧ (wb1 false (1 + (j : Int)) i).rs.length ≤ 64 ∧ 0 ≤ (wb1 false (1 + (j : Int)) i).now ∧ (wb1 false (1 + (j : Int)) i).now ≤ 1000000000 from wb_mid0 false ⟨j, hj⟩ ⟨i, hi⟩)
      obtain ⟨fin1, fin2, fin3, fin4⟩ := (show (wb1 false (1 + (j : Int)) (j + 1)).l.map (fun x => (x.kind, x.bin)) = [(1, 0), (8, 0), (2, 0)] ∧ (wb1 false (1 + (j : Int)) (j + 1)).rs.map (fun r => r.load) = [0] ∧ (wb1 false (1 + (j : Int)) (j + 1)).s.bins (wbP false (1 + (j : Int))) = (wb0 false (1 + (j : Int))).s.bins (wbP false (1 + (j : Int))) ∧ ((wb0 false (1 + (j : Int))).s.bins (wbP false (1 + (j : Int)))).length ≤ 1000 from wb_end0 false ⟨j, hj⟩)
      obtain ⟨m6, hm6⟩ : ∃ m6, (wb1 false (1 + (j : Int)) (j + 1)) = m6 := ⟨_, rfl⟩
      rw [hm6] at fin1 fin2 fin3
      obtain ⟨B, hB⟩ : ∃ B, (wb0 false (1 + (j : Int))).s.bins (wbP false (1 + (j : Int))) = B := ⟨_, rfl⟩
      rw [hB] at fin3 fin4
      obtain ⟨⟨i0, c0, r0, b0', p0, m0⟩, ⟨i1, c1, r1, b1', p1, m1⟩, ⟨i2, c2, r2, b2', p2, m2⟩, hl, e1, e2, e3⟩ := wb_three fin1
      simp only at e1 e2 e3
      subst e1 e2 e3
      obtain ⟨rr, hr, hr0⟩ := wb_oneL fin2
      have kNew := Lib.hid (fun (W : World) (r s b : Option Addr) (h1 : Has W (rOw 36 elPose (.slice r 1 1) [poseO])) (h2 : Has W (rOw 3 elInt (.slice b 1 1) [7])) (h3 : Has W (rOw 85 elStack (.slice s 1 1) [(⟨⟨2, 0⟩, ⟨b, [7], 1⟩⟩ : StackV)])) (h4 : Has W stepsR) => (show Calls Tryz.prog 16 #[.agg (wbV false (1 + (j : Int)) r s b).cells.toArray] W fun e w' => ∃ wp, e = .returned (.tuple #[.pointer (some ⟨wp, 0, none⟩), .int .i64 0]) ∧ Turn (rWLD (wbP false (1 + (j : Int))) wp (wb0 false (1 + (j : Int)))) W w' none' from by
        have := w_new (c := wbV false (1 + (j : Int)) r s b) (by rw [wb_p]; exact hM) (wb_has h1 h2 h3) h4 (wb_sized _ _ _ _ _) (wb_wf _ _ _ _ _)
        rw [wb_p] at this
        exact this))
      have kH := Lib.hid (fun (wp : Nat) (W : World) (S : Nat → Prop) (h : Know W W S [rWLD (wbP false (1 + (j : Int))) wp (wb0 false (1 + (j : Int)))] [stepsR]) => w_hear (t := wbT false (1 + (j : Int))) (v := ((wb1 false (1 + (j : Int)) 0), ((wb0 false (1 + (j : Int))).hear (wbP false (1 + (j : Int))) (wbT false (1 + (j : Int)))).2)) (wb_ok0 false _) (by omega) (show (0 : Int) ≤ 9223372036854775807 by omega) (by show (0 : Nat) ≤ 90000000; omega) (by show (1 : Nat) ≤ 64; omega) rfl h)
      have kT := Lib.hid (fun (i : Nat) (hi : i ≤ j) (wp : Nat) (W : World) (S : Nat → Prop) (h : Know W W S [rWLD (wbP false (1 + (j : Int))) wp (wb1 false (1 + (j : Int)) i)] [stepsR]) => (show Calls Tryz.prog 19 #[.pointer (some ⟨wp, 0, none⟩)] W fun e w' => ∃ ad cap, e = .returned (.slice ad ((wb1 false (1 + (j : Int)) i).tick (wbP false (1 + (j : Int)))).2.length cap) ∧ Turns [rOw 58 elTele (.slice ad ((wb1 false (1 + (j : Int)) i).tick (wbP false (1 + (j : Int)))).2.length cap) ((wb1 false (1 + (j : Int)) i).tick (wbP false (1 + (j : Int)))).2, rWLD (wbP false (1 + (j : Int))) wp (wb1 false (1 + (j : Int)) (i + 1))] W w' S from w_tick (wb_ok1 hM i) (by omega) (mid i (by omega)).1 (mid i (by omega)).2.1 (mid i (by omega)).2.2 (h.subL (by simp))))
      have kS := Lib.hid (fun (wp : Nat) (W : World) (h : Has W (rWLD (wbP false (1 + (j : Int))) wp m6)) => (show Calls Tryz.prog 11 #[.pointer (some ⟨wp, 0, none⟩)] W fun e w' => ∃ ad cap, e = .returned (.slice ad 3 cap) ∧ Turn (rOw 43 elSight (.slice ad 3 cap) [(⟨i0, c0, r0, b0', p0, m0⟩ : Sight), ⟨8, c1, r1, 0, p1, m1⟩, ⟨2, c2, r2, b2', p2, m2⟩]) W w' none' from by
        have := w_sights h (by rw [hl]; show (3 : Nat) ≤ 100000000; omega)
        rw [hl] at this
        exact this))
      have kR := Lib.hid (fun (wp : Nat) (W : World) (h : Has W (rWLD (wbP false (1 + (j : Int))) wp m6)) => (show Calls Tryz.prog 20 #[.pointer (some ⟨wp, 0, none⟩), .int .i64 0] W (Ret (.tuple #[.agg rr.pose.cells.toArray, .int .i64 0, .bool true]) W) from by
        have := w_rob (k := 0) (by rw [hr]; show (1 : Nat) ≤ 64; omega) (by rw [hr]; rfl) h
        rw [hr0] at this
        exact this))
      have kB0 := Lib.hid (fun (wp : Nat) (W : World) (h : Has W (rWLD (wbP false (1 + (j : Int))) wp (wb0 false (1 + (j : Int))))) => (show Calls Tryz.prog 17 #[.pointer (some ⟨wp, 0, none⟩)] W fun e w' => ∃ ad n cap, e = .returned (.slice ad n cap) ∧ Turn (rOw 3 elInt (.slice ad n cap) B) W w' none' from by
        have := w_bins h
        rw [hB] at this
        exact this))
      have kB1 := Lib.hid (fun (wp : Nat) (W : World) (h : Has W (rWLD (wbP false (1 + (j : Int))) wp m6)) => (show Calls Tryz.prog 17 #[.pointer (some ⟨wp, 0, none⟩)] W fun e w' => ∃ ad n cap, e = .returned (.slice ad n cap) ∧ Turn (rOw 3 elInt (.slice ad n cap) B) W w' none' from by
        have := w_bins h
        rw [fin3] at this
        exact this))
      have HM6 := Lib.hid hm6
      have H1 := Lib.hid (show [(⟨i0, c0, r0, b0', p0, m0⟩ : Sight), ⟨8, c1, r1, 0, p1, m1⟩, ⟨2, c2, r2, b2', p2, m2⟩][1]? = some ⟨8, c1, r1, 0, p1, m1⟩ from rfl)
      have H2 := Lib.hid (show [(⟨i0, c0, r0, b0', p0, m0⟩ : Sight), ⟨8, c1, r1, 0, p1, m1⟩, ⟨2, c2, r2, b2', p2, m2⟩][2]? = some ⟨2, c2, r2, b2', p2, m2⟩ from rfl)
      have hB4 : B.length ≤ 9223372036854775807 := by omega
      clear mid fin1 fin2 fin3 fin4 hm6 hB hl hr hr0
      go_enter Tryz.func5, Tryz.ntmps5
      go_wp2_with (first
        | (go_at_call 14; go_must (refine w9_conf.mono ?_; rintro e w' ⟨ra, sa, ba, rfl, hT⟩; replace hK := hK.push hT; simp only [List.cons_append, List.nil_append] at hK; clear hT))
        | ((with_reducible refine wl_at (o := ⟨some 5, .alloc _, _, _, _, _⟩) ?_)
           go_must (refine wl_allocK (z := .agg (confZ19).toArray) (zs := confZ19) hK rfl rfl (by kernel_rfl) rfl ?_; clear hK; intro w5 b5 hK))
        | ((with_reducible refine wl_at (o := ⟨none, .store 26 _ _, _, _, _, _⟩) ?_)
           go_must (refine wl_storeWK (vs := ConfV.cells (w9V ra sa ba)) hK rfl rfl rfl rfl (aggS (by decide)) (w9_one _ _ _) (h := ?_); clear hK; intro w' hK; simp only [List.set_cons_zero, List.set_cons_succ] at hK))
        | (go_at_call 15; go_must (first | (with_reducible refine (hK.quiet (kPh.out _)).mono ?_; clear hK; rintro e w' ⟨rfl, hK⟩) | (with_reducible refine (hK.quiet (kPw.out _)).mono ?_; clear hK; rintro e w' ⟨rfl, hK⟩)))
        | ((with_reducible refine wl_at (o := ⟨none, .store 3 _ _, _, _, _, _⟩) ?_); go_must (refine wl_storeK hK rfl rfl rfl rfl (sizT (by decide)) rfl (hk := by simp [ConfV.cells, w9V]) (h := ?_); clear hK; intro w' hK; replace hK : Know w w' none' [rBlk b5 (ConfV.cells (wbV false (1 + (j : Int)) ra sa ba)) 26, rOw 85 elStack (.slice sa 1 1) [(⟨⟨2, 0⟩, ⟨ba, [7], 1⟩⟩ : StackV)], rOw 3 elInt (.slice ba 1 1) [7], rOw 36 elPose (.slice ra 1 1) [poseO]] [stepsR] := hK))
        | (go_at_call 16; go_must (refine (kNew.out _ ra sa ba hK.own hK.own hK.own hK.lent).mono ?_; rintro e w' ⟨wp, rfl, hT⟩; replace hK := hK.push1 hT; replace hK := hK.sub (M' := [rWLD (wbP false (1 + (j : Int))) wp (wb0 false (1 + (j : Int))), rBlk b5 (ConfV.cells (wbV false (1 + (j : Int)) ra sa ba)) 26]) (.cons_cons _ (.cons_cons _ (.cons _ (.cons _ (.cons _ .slnil))))); clear hT))
        | (go_at_call 17; go_must (first | (with_reducible refine (kB0.out wp _ hK.own).mono ?_; rintro e w' ⟨adB, nB, cB, rfl, hT⟩; replace hK := hK.push1 hT; clear hT) | (with_reducible refine (kB1.out wp _ hK.own).mono ?_; rintro e w' ⟨adE, nE, cE, rfl, hT⟩; replace hK := hK.push1 hT; clear hT)))
        | ((with_reducible refine wl_at (o := ⟨some 40, _, _, _, _, _⟩) ?_); go_must (refine wl_pure (v := .int .i64 1) rfl (fun W => by kernel_rfl) ?_))
        | ((with_reducible refine wl_at (o := ⟨some 44, _, _, _, _, _⟩) ?_); go_must (refine wl_pure (v := .agg (Go.Sk.Move.cells (wbM false (1 + (j : Int)))).toArray) rfl (fun W => by kernel_rfl) ?_))
        | ((with_reducible refine wl_at (o := ⟨some 47, _, _, _, _, _⟩) ?_); go_must (refine wl_pure (v := .agg (Tele.cells (wbT false (1 + (j : Int)))).toArray) rfl (fun W => by kernel_rfl) ?_))
        | ((with_reducible refine wl_at (o := ⟨some 10, .alloc _, _, _, _, _⟩) ?_)
           go_must (refine wl_allocK (z := .agg (Go.Sk.Move.cells mvZ).toArray) (zs := Go.Sk.Move.cells mvZ) hK rfl rfl (by kernel_rfl) rfl ?_; clear hK; intro w10 b10 hK))
        | ((with_reducible refine wl_at (o := ⟨none, .store 38 _ _, _, _, _, _⟩) ?_)
           go_must (refine wl_storeWK (vs := Go.Sk.Move.cells (wbM false (1 + (j : Int)))) hK rfl rfl rfl rfl (aggS (by decide)) (move_one _) (h := ?_); clear hK; intro w' hK; simp only [List.set_cons_zero, List.set_cons_succ] at hK))
        | (go_at_call 18; replace hK := hK.order [0, 2, 1]; simp only [List.filterMap_cons, List.filterMap_nil, List.getElem?_cons_succ, List.getElem?_cons_zero, List.length_cons, List.length_nil, Nat.reduceAdd, List.drop_succ_cons, List.drop_zero, List.cons_append, List.nil_append] at hK; go_must (with_reducible refine (calls_wx hK (by simp) (fun S hS => kH.out wp _ S hS)).mono ?_; clear hK; rintro e w' ⟨ad1, cp1, rfl, hK⟩; replace hK := hK.sub (.cons_cons _ (.cons_cons _ (.cons _ (List.Sublist.refl _))))))
        | go_big_skip
        | ((with_reducible refine wl_at (o := ⟨_, .load _ _, _, _, _, _⟩) ?_)
           first
             | refine wl_loadK hK rfl rfl rfl (scalT (by decide)) (h := ?_)
             | refine wl_loadSK hK rfl rfl rfl (aggT (by decide)) (h := ?_)
             | refine wl_loadA0 rfl rfl rfl (scalT (by decide)) (h := ?_)
             | refine wl_loadA rfl rfl rfl (scalT (by decide)) (h := ?_)
             | refine wl_loadSA rfl rfl rfl (aggT (by decide)) (h := ?_))
        | (with_reducible refine atEnd_mk (by kernel_rfl) ?_))
      go_loopg [11] (j + 1) (fun k t11 wr => ∃ i : Nat, t11 = .int .i64 (i : Int) ∧ k = j + 1 - i ∧ i ≤ j + 1 ∧ Know w wr none' [rBlk b10 (Go.Sk.Move.cells (wbM false (1 + (j : Int)))) 38, rWLD (wbP false (1 + (j : Int))) wp (wb1 false (1 + (j : Int)) i), rOw 3 elInt (.slice adB nB cB) B, rBlk b5 (ConfV.cells (wbV false (1 + (j : Int)) ra sa ba)) 26] [stepsR])
      case atStart => exact ⟨0, rfl, by omega, by omega, hK⟩
      case round =>
        clear hK
        obtain ⟨i, rfl, rfl, hi, hK⟩ := hrel
        by_cases hlt : i < j + 1
        · have d1 : decide ((i : Int) < (wbV false (1 + (j : Int)) ra sa ba).hoist) = true := decide_eq_true (show (i : Int) < 1 + (j : Int) by omega)
          go_wp2_with (first
            | (go_at_call 19; go_must (with_reducible refine (calls_wx hK (by simp) (fun S hS => kT.out i (by omega) wp _ S hS)).mono ?_; clear hK; rintro e w' ⟨ad2, cp2, rfl, hK⟩; replace hK := hK.sub (.cons_cons _ (.cons_cons _ (.cons _ (List.Sublist.refl _))))))
            | go_big_skip
            | ((with_reducible refine wl_at (o := ⟨_, .load _ _, _, _, _, _⟩) ?_)
               first
                 | refine wl_loadK hK rfl rfl rfl (scalT (by decide)) (h := ?_)
                 | refine wl_loadSK hK rfl rfl rfl (aggT (by decide)) (h := ?_)
                 | refine wl_loadA0 rfl rfl rfl (scalT (by decide)) (h := ?_)
                 | refine wl_loadA rfl rfl rfl (scalT (by decide)) (h := ?_)
                 | refine wl_loadSA rfl rfl rfl (aggT (by decide)) (h := ?_))
            | (with_reducible refine atEnd_mk (by kernel_rfl) ?_))
          go_roundg (j + 1 - (i + 1))
          case measure => omega
          case rel => exact ⟨i + 1, by go_num, rfl, by omega, hK⟩
        · obtain rfl : i = j + 1 := by omega
          have d1 : decide (((j + 1 : Nat) : Int) < (wbV false (1 + (j : Int)) ra sa ba).hoist) = false := decide_eq_false (show ¬ ((j + 1 : Nat) : Int) < 1 + (j : Int) by omega)
          have d2 : decide ((j : Int) + 1 < (wbV false (1 + (j : Int)) ra sa ba).hoist) = false := decide_eq_false (show ¬ (j : Int) + 1 < 1 + (j : Int) by omega)
          rw [HM6.out] at hK
          go_wp2_with (first
            | (go_at_call 11; go_must (refine (kS.out wp _ hK.own).mono ?_; rintro e w' ⟨adS, cpS, rfl, hT⟩; replace hK := hK.push1 hT; clear hT))
            | (go_at_call 20; go_must (refine (hK.quiet (kR.out wp _ hK.own)).mono ?_; clear hK; rintro e w' ⟨rfl, hK⟩))
            | ((with_reducible refine wl_at (o := ⟨some 13, .alloc _, _, _, _, _⟩) ?_)
               go_must (refine wl_allocK (z := .agg (poseZ3).toArray) (zs := poseZ3) hK rfl rfl (by kernel_rfl) rfl ?_; clear hK; intro w13 b13 hK))
            | ((with_reducible refine wl_at (o := ⟨none, .store 36 _ _, _, _, _, _⟩) ?_)
               go_must (refine wl_storeWK (vs := Pose.cells rr.pose) hK rfl rfl rfl rfl (aggS (by decide)) (pose_one _) (h := ?_); clear hK; intro w' hK; simp only [List.set_cons_zero, List.set_cons_succ] at hK))
            | ((with_reducible refine wl_at (o := ⟨some 70, _, _, _, _, _⟩) ?_); go_must (refine wl_ixK (i := 1) (u := (⟨8, c1, r1, 0, p1, m1⟩ : Sight)) hK rfl rfl rfl rfl sightTy.und sightTy.size (hu := H1) (h := ?_); intro b70 k70 hat70))
            | ((with_reducible refine wl_at (o := ⟨some 77, _, _, _, _, _⟩) ?_); go_must (refine wl_ixK (i := 1) (u := (⟨8, c1, r1, 0, p1, m1⟩ : Sight)) hK rfl rfl rfl rfl sightTy.und sightTy.size (hu := H1) (h := ?_); intro b77 k77 hat77))
            | ((with_reducible refine wl_at (o := ⟨some 84, _, _, _, _, _⟩) ?_); go_must (refine wl_ixK (i := 2) (u := (⟨2, c2, r2, b2', p2, m2⟩ : Sight)) hK rfl rfl rfl rfl sightTy.und sightTy.size (hu := H2) (h := ?_); intro b84 k84 hat84))
            | (go_at_call 17; go_must (with_reducible refine (kB1.out wp _ hK.own).mono ?_; rintro e w' ⟨adE, nE, cE, rfl, hT⟩; replace hK := hK.push1 hT; clear hT))
            | (go_at_call 21; go_must (refine (hK.quiet (same_intsW (l := B) (l' := B) (decide_eq_true rfl) hK.rd hK.rd hB4)).mono ?_; clear hK; rintro e w' ⟨rfl, hK⟩))
            | (go_at_call 9; go_must (refine (hK.quiet (awake19 hK.lent)).mono ?_; clear hK; rintro e w' ⟨rfl, hK⟩))
            | go_big_skip
            | ((with_reducible refine wl_at (o := ⟨_, .load _ _, _, _, _, _⟩) ?_)
               first
                 | refine wl_loadK hK rfl rfl rfl (scalT (by decide)) (h := ?_)
                 | refine wl_loadSK hK rfl rfl rfl (aggT (by decide)) (h := ?_)
                 | refine wl_loadA0 rfl rfl rfl (scalT (by decide)) (h := ?_)
                 | refine wl_loadA rfl rfl rfl (scalT (by decide)) (h := ?_)
                 | refine wl_loadSA rfl rfl rfl (aggT (by decide)) (h := ?_))
            | (with_reducible refine atEnd_mk (by kernel_rfl) ?_))
          go_ret
          exact ⟨rfl, hK.mod⟩
end Go.Proofs.YtngeeilkpnihmaaGreatDoor
