/- The world's small functions: List, robot, sees, Now, Sights, Delay. -/
import Derived.Test.YtngeeilkpnihmaaGreatDoorWd1Q
import Derived.Test.YtngeeilkpnihmaaGreatDoorRbA
import Derived.Test.YtngeeilkpnihmaaGreatDoorStA
import Derived.Test.YtngeeilkpnihmaaGreatDoorSkB
import Derived.Test.YtngeeilkpnihmaaGreatDoorSkSightQ
set_option linter.all false
namespace Go.Proofs.YtngeeilkpnihmaaGreatDoor
open Go Go.Sk Go.RowKit
set_option maxRecDepth 100000

theorem sightTy : SliceTy Tryz.prog 40 43 elSight.sz 144 (Sight.cells Sight.zero) :=
  SliceTy.mk' (z := .agg (Sight.cells Sight.zero).toArray) (by kernel_rfl) (by kernel_rfl) rfl rfl
theorem ptrTy : SliceTy Tryz.prog 78 81 elPtr.sz 8 [.pointer none] :=
  SliceTy.mk' (z := .pointer none) (by kernel_rfl) (by kernel_rfl) rfl rfl

set_option maxHeartbeats 1000000 in
theorem w_list {ad0 : Option Addr} {c0 : Nat} {l : List Sight} {w : World} (h : Rd w elSight (.slice ad0 l.length c0) l) (hl : l.length ≤ 100000000) : Calls Tryz.prog 29 #[.slice ad0 l.length c0] w fun e w' => ∃ ad cap, e = .returned (.slice ad l.length cap) ∧ Turn (rOw 43 elSight (.slice ad l.length cap) l) w w' none' := by
  have hK := Know.start (L := [rRd elSight (.slice ad0 l.length c0) l]) w (by simpa using h.has)
  by_cases h0 : l.length = 0
  · obtain rfl : l = [] := List.eq_nil_of_length_eq_zero h0
    clear h0
    go_enter Tryz.func29, Tryz.ntmps29
    go_wp2
    go_ret
    exact ⟨none, 0, rfl, (hK.nil _ _).turn⟩
  · have e0 : (((l.length : Nat) : Int) == 0) = false := beq_eq_false_iff_ne.2 (by omega)
    have hp : 0 < l.length := by omega
    clear h0
    go_enter Tryz.func29, Tryz.ntmps29
    go_wp2_with (first
      | ((with_reducible refine wl_at (o := ⟨some 9, _, _, _, _, _⟩) ?_)
         go_must (refine wl_makeK Sight.zero hK sightTy rfl rfl rfl rfl rfl (by omega) (by unfold maxLen; omega) ?_; clear hK; intro ad w9 hK))
      | ((with_reducible refine wl_at (o := ⟨some 12, _, _, _, _, _⟩) ?_)
         go_must (refine wl_copyK (xs := List.replicate l.length Sight.zero) hK sightTy rfl rfl rfl rfl hK.rd (by simp) (by simpa using hp) (h := ?_); clear hK; intro w12 hK; simp only [List.set_cons_zero] at hK))
      | go_big_skip
      | ((with_reducible refine wl_at (o := ⟨_, .load _ _, _, _, _, _⟩) ?_)
         first
           | refine wl_loadK hK rfl rfl rfl (scalT (by decide)) (h := ?_)
           | refine wl_loadSK hK rfl rfl rfl (aggT (by decide)) (h := ?_)
           | refine wl_loadA0 rfl rfl rfl (scalT (by decide)) (h := ?_)
           | refine wl_loadA rfl rfl rfl (scalT (by decide)) (h := ?_)
           | refine wl_loadSA rfl rfl rfl (aggT (by decide)) (h := ?_))
      | (with_reducible refine atEnd_mk (by kernel_rfl) ?_))
    go_ret
    exact ⟨ad, l.length, rfl, hK.turn⟩

/-- Which robot: its pointer, or none. -/
def robotV (ps : List Nat) (i : Int) : Value := if 0 ≤ i then (match ps[i.toNat]? with | some p => .pointer (some ⟨p, 0, none⟩) | none => .pointer none) else .pointer none
set_option maxHeartbeats 1000000 in
theorem w_robot {wp n : Nat} {g1 g2 g4 g5 : Value} {ra : Option Addr} {rc : Nat} {ps : List Nat} {i : Int} {w : World} (h1 : Has w (rBlk wp [g1, g2, .slice ra n rc, g4, g5] 80)) (h2 : Has w (rOw 81 elPtr (.slice ra n rc) ps)) (hn : n = ps.length) (hl : ps.length ≤ 1000) : Calls Tryz.prog 30 #[.pointer (some ⟨wp, 0, none⟩), .int .i64 i] w (Ret (robotV ps i) w) := by
  have hK : Know w w none' [] [rBlk wp [g1, g2, .slice ra n rc, g4, g5] 80, rOw 81 elPtr (.slice ra n rc) ps] := Know.start (L := [rBlk wp [g1, g2, .slice ra n rc, g4, g5] 80, rOw 81 elPtr (.slice ra n rc) ps]) w (by
    intro r hr
    simp only [List.mem_cons, List.not_mem_nil, or_false] at hr
    rcases hr with rfl | rfl
    · exact h1
    · exact h2)
  clear h1 h2
  have HN := Lib.hid hn
  have hn2 : n ≤ 1000 := by omega
  clear hn hl
  obtain ⟨V, hV⟩ : ∃ V, robotV ps i = V := ⟨_, rfl⟩
  rw [hV]
  unfold robotV at hV
  by_cases h0 : 0 ≤ i
  · rw [if_pos h0] at hV
    obtain ⟨j, rfl⟩ : ∃ j : Nat, i = (j : Int) := ⟨i.toNat, by omega⟩
    rw [Int.toNat_natCast] at hV
    by_cases hj : j < n
    · obtain ⟨p, hp⟩ : ∃ p, ps[j]? = some p := ⟨_, List.getElem?_eq_getElem (by rw [← HN.out]; exact hj)⟩
      rw [hp] at hV
      have HP := Lib.hid hp
      have d1 : decide ((j : Int) < 0) = false := decide_eq_false (by omega)
      have d2 : decide ((n : Int) ≤ (j : Int)) = false := decide_eq_false (by omega)
      clear hp h0
      subst hV
      go_enter Tryz.func30, Tryz.ntmps30
      go_wp2_with (first
        | ((with_reducible refine wl_at (o := ⟨some 25, _, _, _, _, _⟩) ?_); go_must (refine wl_ixK (i := j) (u := p) hK rfl rfl rfl rfl ptrTy.und ptrTy.size (xs := ps) (hu := HP) (h := ?_); intro b25 k25 hat25))
        | ((with_reducible refine wl_at (o := ⟨some 26, _, _, _, _, _⟩) ?_); refine wl_loadA0 rfl rfl rfl (scalT (by decide)) (hat := hat25) (h := ?_))
        | go_big_skip
        | ((with_reducible refine wl_at (o := ⟨_, .load _ _, _, _, _, _⟩) ?_)
           first
             | refine wl_loadK hK rfl rfl rfl (scalT (by decide)) (h := ?_)
             | refine wl_loadSK hK rfl rfl rfl (aggT (by decide)) (h := ?_)
             | refine wl_loadA0 rfl rfl rfl (scalT (by decide)) (h := ?_)
             | refine wl_loadA rfl rfl rfl (scalT (by decide)) (h := ?_)
             | refine wl_loadSA rfl rfl rfl (aggT (by decide)) (h := ?_))
        | (with_reducible refine atEnd_mk (by kernel_rfl) ?_))
      go_ret
      exact ⟨rfl, hK.mod⟩
    · rw [List.getElem?_eq_none (by rw [← HN.out]; omega)] at hV
      have d1 : decide ((j : Int) < 0) = false := decide_eq_false (by omega)
      have d2 : decide ((n : Int) ≤ (j : Int)) = true := decide_eq_true (by omega)
      clear h0
      subst hV
      go_enter Tryz.func30, Tryz.ntmps30
      go_wp2_with (first
        | go_big_skip
        | ((with_reducible refine wl_at (o := ⟨_, .load _ _, _, _, _, _⟩) ?_)
           first
             | refine wl_loadK hK rfl rfl rfl (scalT (by decide)) (h := ?_)
             | refine wl_loadSK hK rfl rfl rfl (aggT (by decide)) (h := ?_)
             | refine wl_loadA0 rfl rfl rfl (scalT (by decide)) (h := ?_)
             | refine wl_loadA rfl rfl rfl (scalT (by decide)) (h := ?_)
             | refine wl_loadSA rfl rfl rfl (aggT (by decide)) (h := ?_))
        | (with_reducible refine atEnd_mk (by kernel_rfl) ?_))
      go_ret
      exact ⟨rfl, hK.mod⟩
  · rw [if_neg h0] at hV
    have d1 : decide (i < 0) = true := decide_eq_true (by omega)
    clear h0
    subst hV
    go_enter Tryz.func30, Tryz.ntmps30
    go_wp2_with (first
      | go_big_skip
      | ((with_reducible refine wl_at (o := ⟨_, .load _ _, _, _, _, _⟩) ?_)
         first
           | refine wl_loadK hK rfl rfl rfl (scalT (by decide)) (h := ?_)
           | refine wl_loadSK hK rfl rfl rfl (aggT (by decide)) (h := ?_)
           | refine wl_loadA0 rfl rfl rfl (scalT (by decide)) (h := ?_)
           | refine wl_loadA rfl rfl rfl (scalT (by decide)) (h := ?_)
           | refine wl_loadSA rfl rfl rfl (aggT (by decide)) (h := ?_))
      | (with_reducible refine atEnd_mk (by kernel_rfl) ?_))
    go_ret
    exact ⟨rfl, hK.mod⟩

def stampS (now : Int) (i : Nat) (p : Pose) (y : Sight) : Sight := { y with tick := now, robot := i, pose := p }
set_option maxHeartbeats 4000000 in
theorem w_sees {c : ConfP} {wp i : Nat} {m : WM} {r : RM} {xa : Option Addr} {xc : Nat} {ys : List Sight} {w : World} {S : Nat → Prop} {L : List Res} (hr : m.rs[i]? = some r) (hl : ys.length ≤ 16) (hml : m.l.length ≤ 100000000) (hrs : m.rs.length ≤ 64) (h : Know w w S [rWLD c wp m] L) (hL : rRd elSight (.slice xa ys.length xc) ys ∈ L) :
    Calls Tryz.prog 38 #[.pointer (some ⟨wp, 0, none⟩), .int .i64 i, .slice xa ys.length xc] w fun e w' => e = .returned (.tuple #[]) ∧ Turn (rWLD c wp { m with l := m.l ++ ys.map (stampS m.now i r.pose) }) w w' S := by
  replace h := h.subL (L' := [rRd elSight (.slice xa ys.length xc) ys]) (by simpa using hL)
  obtain ⟨gp, sp, ra, rc, ps, sa, sc, hlen, hK⟩ := Know.wld h
  clear h hL
  have hi : i < m.rs.length := (List.getElem?_eq_some_iff.1 hr).1
  obtain ⟨p, hp⟩ : ∃ p, ps[i]? = some p := ⟨_, List.getElem?_eq_getElem (by rw [hlen]; exact hi)⟩
  have HP := Lib.hid hp
  have kPo := Lib.hid (fun (W : World) (h : Has W (rMany (robsW c ps m.rs))) => rb_pose (rMany_has h _ (List.mem_of_getElem? (robsW_at (c := c) hr hp))))
  have HLEN := Lib.hid hlen
  have HE := Lib.hid (fun (W : World) (sa : Option Addr) (sc : Nat) (l : List Sight) (h : Know w W S [rBlk wp [.pointer (some ⟨gp, 0, none⟩), .pointer (some ⟨sp, 0, none⟩), .slice ra ps.length rc, .int .i64 m.now, .slice sa l.length sc] 80, rGRID c gp, rSTK c sp m.s, rMany (robsW c ps m.rs), rOw 81 elPtr (.slice ra ps.length rc) ps, rOw 43 elSight (.slice sa l.length sc) l] [rRd elSight (.slice xa ys.length xc) ys]) => Turns.wld (m := { m with l := l }) HLEN.out h.turns)
  simp only [rWd, wdCells] at hK
  obtain ⟨N, hN⟩ : ∃ N, ys.length = N := ⟨_, rfl⟩
  rw [hN] at hK HE hl ⊢
  have HN := Lib.hid hN
  have hps : ps.length ≤ 64 := by omega
  have hi64 : i ≤ 64 := by omega
  clear hN hr hp hlen hi
  go_enter Tryz.func38, Tryz.ntmps38
  go_wp2_with (first
    | go_big_skip
    | ((with_reducible refine wl_at (o := ⟨_, .load _ _, _, _, _, _⟩) ?_)
       first
         | refine wl_loadK hK rfl rfl rfl (scalT (by decide)) (h := ?_)
         | refine wl_loadSK hK rfl rfl rfl (aggT (by decide)) (h := ?_)
         | refine wl_loadA0 rfl rfl rfl (scalT (by decide)) (h := ?_)
         | refine wl_loadA rfl rfl rfl (scalT (by decide)) (h := ?_)
         | refine wl_loadSA rfl rfl rfl (aggT (by decide)) (h := ?_))
    | (with_reducible refine atEnd_mk (by kernel_rfl) ?_))
  go_loopg [7, 10] N (fun k _ t10 wr => ∃ (j : Nat) (sa : Option Addr) (sc nl : Nat) (l : List Sight), t10 = .int .i64 j ∧ k = N - j ∧ j ≤ N ∧ Hid (l = m.l ++ (ys.take j).map (stampS m.now i r.pose)) ∧ Hid (nl = l.length) ∧ nl ≤ 100000000 + j ∧ Know w wr S [rBlk wp [.pointer (some ⟨gp, 0, none⟩), .pointer (some ⟨sp, 0, none⟩), .slice ra ps.length rc, .int .i64 m.now, .slice sa nl sc] 80, rGRID c gp, rSTK c sp m.s, rMany (robsW c ps m.rs), rOw 81 elPtr (.slice ra ps.length rc) ps, rOw 43 elSight (.slice sa nl sc) l] [rRd elSight (.slice xa N xc) ys])
  case atStart => exact ⟨0, sa, sc, m.l.length, m.l, rfl, rfl, by omega, by show _ = _; simp, rfl, by omega, hK⟩
  case round =>
    clear hK
    obtain ⟨j, sa, sc, nl, l, rfl, rfl, hj, hl2, hnl, hl3, hK⟩ := hrel
    have hll : l.length ≤ 100000100 := by have := hnl.out; omega
    by_cases hlt : j < N
    · obtain ⟨y, hy⟩ : ∃ y, ys[j]? = some y := ⟨_, List.getElem?_eq_getElem (by rw [HN.out]; exact hlt)⟩
      have HY := Lib.hid hy
      have dl : decide ((j : Int) < (N : Int)) = true := decide_eq_true (by omega)
      have HL := Lib.hid (show l ++ [stampS m.now i r.pose y] = m.l ++ (ys.take (j + 1)).map (stampS m.now i r.pose) by
        rw [hl2.out, List.take_add_one, hy, List.map_append, List.append_assoc]
        rfl)
      clear hy
      go_wp2_with (first
        | ((with_reducible refine wl_at (o := ⟨some 12, _, _, _, _, _⟩) ?_); go_must (refine wl_ixK (i := j) (u := y) hK rfl rfl rfl rfl sightTy.und sightTy.size (xs := ys) (hu := HY) (h := ?_); intro b12 k12 hat12))
        | ((with_reducible refine wl_at (o := ⟨some 13, _, _, _, _, _⟩) ?_); refine wl_loadSA rfl rfl rfl (aggT (by decide)) (hat := hat12) (h := ?_))
        | ((with_reducible refine wl_at (o := ⟨some 7, .alloc _, _, _, _, _⟩) ?_)
           go_must (refine wl_allocK (z := .agg (Sight.cells Sight.zero).toArray) (zs := Sight.cells Sight.zero) hK rfl rfl (by kernel_rfl) rfl ?_; clear hK; intro w7 b7 hK))
        | ((with_reducible refine wl_at (o := ⟨none, .store 43 _ _, _, _, _, _⟩) ?_)
           go_must (refine wl_storeWK (vs := Sight.cells y) hK rfl rfl rfl rfl (aggS (by decide)) (elSight.one _) (h := ?_); clear hK; intro w' hK; simp only [List.set_cons_zero, List.set_cons_succ] at hK))
        | ((with_reducible refine wp_region_stableK (id := 3) hK [3] [rBlk wp [.pointer (some ⟨gp, 0, none⟩), .pointer (some ⟨sp, 0, none⟩), .slice ra ps.length rc, .int .i64 m.now, .slice sa nl sc] 80] (by kernel_rfl) (by kernel_rfl) (by simp) (by kernel_rfl) ?_); clear hK; intro w' hK)
        | (with_reducible refine wpC_of ?_)
        | (with_reducible refine atEndC (hK.cls (by simp)) ?_)
        | ((with_reducible refine wpC_end' ?_); refine wpC_nil ⟨by kernel_rfl, stays_loadK rfl rfl rfl rfl (scalT (by decide)) rfl (rest := stays_nil), ?_⟩)
        | ((with_reducible refine wp_region_textK (id := 4) hK (by kernel_rfl) (by kernel_rfl) ?_); clear hK; intro w' hK)
        | ((with_reducible refine wl_at (o := ⟨some 24, _, _, _, _, _⟩) ?_); go_must (refine wl_ixK (i := i) (u := p) hK rfl rfl rfl rfl ptrTy.und ptrTy.size (xs := ps) (hu := HP) (h := ?_); intro b24 k24 hat24))
        | ((with_reducible refine wl_at (o := ⟨some 25, _, _, _, _, _⟩) ?_); refine wl_loadA0 rfl rfl rfl (scalT (by decide)) (hat := hat24) (h := ?_))
        | (go_at_call 42; go_must (refine (hK.quiet (kPo.out _ hK.own)).mono ?_; clear hK; rintro e w' ⟨rfl, hK⟩))
        | ((with_reducible refine wl_at (o := ⟨none, .store 3 (.tmp 27) _, _, _, _, _⟩) ?_); go_must (refine wl_storeK (v := .int .i64 m.now) hK rfl rfl rfl rfl (sizT (by decide)) rfl (hk := by simp [Sight.cells, Pose.cells, Go.Sk.Move.cells]) (h := ?_); clear hK; intro w' hK; simp only [List.set_cons_zero, List.set_cons_succ] at hK))
        | ((with_reducible refine wl_at (o := ⟨none, .store 3 (.tmp 28) _, _, _, _, _⟩) ?_); go_must (refine wl_storeK (v := .int .i64 i) hK rfl rfl rfl rfl (sizT (by decide)) rfl (hk := by simp [Sight.cells, Pose.cells, Go.Sk.Move.cells]) (h := ?_); clear hK; intro w' hK; simp only [List.set_cons_zero, List.set_cons_succ] at hK))
        | ((with_reducible refine wl_at (o := ⟨none, .store 36 (.tmp 29) _, _, _, _, _⟩) ?_)
           go_must (refine wl_storePK (n := 3) (Pose.cells r.pose) (Sight.cells (stampS m.now i r.pose y)) hK rfl rfl rfl rfl (aggS (by decide)) (pose_one _) (hk := by simp [Sight.cells, Pose.cells, Go.Sk.Move.cells]) (hc := rfl) (h := ?_); clear hK; intro w' hK; simp only [List.set_cons_zero, List.set_cons_succ] at hK))
        | ((with_reducible refine wl_at (o := ⟨some 36, _, _, _, _, _⟩) ?_); go_must (refine wl_buildK 43 elSight [stampS m.now i r.pose y] hK rfl rfl (fun W => by kernel_rfl) rfl (by decide) ?_; clear hK; intro adb w36 hK))
        | ((with_reducible refine wl_at (o := ⟨some 37, _, _, _, _, _⟩) ?_)
           go_must (refine wl_appK (xs := l) (ys := [stampS m.now i r.pose y]) hK sightTy rfl rfl rfl rfl hK.rd (by simp; unfold maxLen; omega) (by simp; omega) (h := ?_); clear hK; intro ad2 N2 cap2 w37 hN2 hK; replace hN2 := Lib.hid hN2; simp only [List.set_cons_zero, List.set_cons_succ] at hK))
        | ((with_reducible refine wl_at (o := ⟨none, .store 40 (.tmp 39) _, _, _, _, _⟩) ?_); go_must (refine wl_storeK (v := .slice ad2 N2 cap2) hK rfl rfl rfl rfl (sizT (by decide)) rfl (hk := by simp) (h := ?_); clear hK; intro w' hK; simp only [List.set_cons_zero, List.set_cons_succ] at hK))
        | go_big_skip
        | ((with_reducible refine wl_at (o := ⟨_, .load _ _, _, _, _, _⟩) ?_)
           first
             | refine wl_loadK hK rfl rfl rfl (scalT (by decide)) (h := ?_)
             | refine wl_loadSK hK rfl rfl rfl (aggT (by decide)) (h := ?_)
             | refine wl_loadA0 rfl rfl rfl (scalT (by decide)) (h := ?_)
             | refine wl_loadA rfl rfl rfl (scalT (by decide)) (h := ?_)
             | refine wl_loadSA rfl rfl rfl (aggT (by decide)) (h := ?_))
        | (with_reducible refine atEnd_mk (by kernel_rfl) ?_))
      go_roundg (N - (j + 1))
      case measure => omega
      case rel => exact ⟨j + 1, ad2, cap2, N2, l ++ [stampS m.now i r.pose y], by go_num, rfl, by omega, HL, hN2, by have h1 := hN2.out; have h2 := hnl.out; rw [List.length_append] at h1; simp only [List.length_cons, List.length_nil] at h1; omega, hK.sub (.cons _ (.cons _ (List.Sublist.refl _)))⟩
    · have dl : decide ((j : Int) < (N : Int)) = false := decide_eq_false (by omega)
      have HL := Lib.hid (show m.l ++ ys.map (stampS m.now i r.pose) = l by rw [hl2.out, List.take_of_length_le (by rw [HN.out]; omega)])
      go_wp2_with (first
        | go_big_skip
        | ((with_reducible refine wl_at (o := ⟨_, .load _ _, _, _, _, _⟩) ?_)
           first
             | refine wl_loadK hK rfl rfl rfl (scalT (by decide)) (h := ?_)
             | refine wl_loadSK hK rfl rfl rfl (aggT (by decide)) (h := ?_)
             | refine wl_loadA0 rfl rfl rfl (scalT (by decide)) (h := ?_)
             | refine wl_loadA rfl rfl rfl (scalT (by decide)) (h := ?_)
             | refine wl_loadSA rfl rfl rfl (aggT (by decide)) (h := ?_))
        | (with_reducible refine atEnd_mk (by kernel_rfl) ?_))
      first | (refine bodyPost_ret (results_none rfl _ _ _) rfl ?_) | (refine bodyPost_end (results_none rfl _ _ _) rfl ?_)
      refine ⟨rfl, ?_⟩
      rw [HL.out]
      have hh := hnl.out
      subst hh
      exact HE.out _ sa sc l hK
end Go.Proofs.YtngeeilkpnihmaaGreatDoor
