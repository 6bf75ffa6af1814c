/- The world: Bins, Robot. -/
import Derived.Test.YtngeeilkpnihmaaGreatDoorWd7Q
import Derived.Test.YtngeeilkpnihmaaGreatDoorBn2Q
set_option linter.all false
namespace Go.Proofs.YtngeeilkpnihmaaGreatDoor
open Go Go.Sk Go.RowKit
set_option maxRecDepth 100000

theorem w_bins {c : ConfP} {wp : Nat} {m : WM} {w : World} (h : Has w (rWLD c wp m)) : Calls Tryz.prog 17 #[.pointer (some ⟨wp, 0, none⟩)] w fun e w' => ∃ ad n cap, e = .returned (.slice ad n cap) ∧ Turn (rOw 3 elInt (.slice ad n cap) (m.s.bins c)) w w' none' := by
  obtain ⟨gp, sp, ra, rc, ps, sa, sc, hlen, hK⟩ := Has.wldK h
  clear h hlen
  have kB := Lib.hid (fun (W : World) (h : Has W (rSTK c sp m.s)) => k_bins h)
  simp only [rWd, wdCells] at hK
  go_enter Tryz.func17, Tryz.ntmps17
  go_wp2_with (first
    | (go_at_call 35; go_must (refine (kB.out _ hK.lent).mono ?_; rintro e w' ⟨ad, n, cap, rfl, hT⟩; replace hK := hK.push1 hT; clear hT))
    | go_big_skip
    | ((with_reducible refine wl_at (o := ⟨_, .load _ _, _, _, _, _⟩) ?_)
       first | refine wl_loadK hK rfl rfl rfl (scalT (by decide)) (h := ?_) | refine wl_loadSK hK rfl rfl rfl (aggT (by decide)) (h := ?_))
    | (with_reducible refine atEnd_mk (by kernel_rfl) ?_))
  go_ret
  exact ⟨ad, n, cap, rfl, hK.turn⟩
theorem Know.robR {c : ConfP} {wp gp sp i p : Nat} {ra : Option Addr} {rc : Nat} {ps : List Nat} {sa : Option Addr} {sc : Nat} {m : WM} {r : RM} {w0 w : World} {F : Nat → Prop} {M : List Res} (h : Know w0 w F M (rWd c wp gp sp ra rc ps sa sc m)) (hr : m.rs[i]? = some r) (hp : ps[i]? = some p) : Has w (rROB c i p r) := by
  have h1 : Has w (rMany (robsW c ps m.rs)) := h.has (by simp [rWd])
  obtain ⟨S, h1⟩ := h1
  exact (rMany_p.1 h1).has (List.mem_of_getElem? (robsW_at hr hp))
set_option maxHeartbeats 1000000 in
theorem w_rob {c : ConfP} {wp k : Nat} {m : WM} {r : RM} {w : World} (hrs : m.rs.length ≤ 64) (hr : m.rs[k]? = some r) (h : Has w (rWLD c wp m)) : Calls Tryz.prog 20 #[.pointer (some ⟨wp, 0, none⟩), .int .i64 (k : Int)] w (Ret (.tuple #[.agg r.pose.cells.toArray, .int .i64 r.load, .bool true]) w) := by
  obtain ⟨gp, sp, ra, rc, ps, sa, sc, hlen, hK⟩ := Has.wldK h
  clear h
  have hkl : k < m.rs.length := (List.getElem?_eq_some_iff.1 hr).1
  obtain ⟨p, hp⟩ : ∃ p, ps[k]? = some p := ⟨_, List.getElem?_eq_getElem (by rw [hlen]; exact hkl)⟩
  have kR := Lib.hid (fun (W : World) (M : List Res) (F : Nat → Prop) (hK : Know w W F M (rWd c wp gp sp ra rc ps sa sc m)) => (show Calls Tryz.prog 30 #[.pointer (some ⟨wp, 0, none⟩), .int .i64 (k : Int)] W (Ret (.pointer (some ⟨p, 0, none⟩)) W) by
    have := w_robot (i := (k : Int)) (hK.has (r := rBlk wp [.pointer (some ⟨gp, 0, none⟩), .pointer (some ⟨sp, 0, none⟩), .slice ra ps.length rc, .int .i64 m.now, .slice sa m.l.length sc] 80) (by simp [rWd, wdCells])) (hK.has (r := rOw 81 elPtr (.slice ra ps.length rc) ps) (by simp [rWd])) rfl (by omega)
    rwa [robotV_at hp] at this))
  have kP := Lib.hid (fun (W : World) (M : List Res) (F : Nat → Prop) (hK : Know w W F M (rWd c wp gp sp ra rc ps sa sc m)) => rb_pose (Know.robR hK hr hp))
  have kL := Lib.hid (fun (W : World) (M : List Res) (F : Nat → Prop) (hK : Know w W F M (rWd c wp gp sp ra rc ps sa sc m)) => rb_load (Know.robR hK hr hp))
  clear hlen hkl hr hp hrs
  go_enter Tryz.func20, Tryz.ntmps20
  go_wp2_with (first
    | ((with_reducible refine wl_at (o := ⟨some 4, .alloc _, _, _, _, _⟩) ?_)
       go_must (refine wl_allocK (z := .agg (poseZ3).toArray) (zs := poseZ3) hK rfl rfl (by kernel_rfl) rfl ?_; clear hK; intro w4 b4 hK))
    | (go_at_call 30; go_must (refine (hK.quiet (kR.out _ _ _ hK)).mono ?_; clear hK; rintro e w' ⟨rfl, hK⟩))
    | (go_at_call 42; go_must (refine (hK.quiet (kP.out _ _ _ hK)).mono ?_; clear hK; rintro e w' ⟨rfl, hK⟩))
    | (go_at_call 43; go_must (refine (hK.quiet (kL.out _ _ _ hK)).mono ?_; clear hK; rintro e w' ⟨rfl, hK⟩))
    | ((with_reducible refine wl_at (o := ⟨none, .store 36 _ _, _, _, _, _⟩) ?_)
       go_must (refine wl_storeWK (vs := Pose.cells r.pose) hK rfl rfl rfl rfl (aggS (by decide)) (pose_one _) (h := ?_); clear hK; intro w' hK; simp only [List.set_cons_zero, List.set_cons_succ] at hK))
    | go_big_skip
    | ((with_reducible refine wl_at (o := ⟨_, .load _ _, _, _, _, _⟩) ?_)
       first | refine wl_loadK hK rfl rfl rfl (scalT (by decide)) (h := ?_) | refine wl_loadSK hK rfl rfl rfl (aggT (by decide)) (h := ?_))
    | (with_reducible refine atEnd_mk (by kernel_rfl) ?_))
  exact bodyPost_ret (res_cellS_tmp2 rfl _ rfl (aggT (by decide)) rfl (hK.blk (b := b4) (cs := Pose.cells r.pose)).at0) rfl ⟨rfl, hK.mod⟩
theorem same_intsW {w : World} {ad ad' : Option Addr} {n n' cap cap' : Nat} {l l' : List Int} {b : Bool} (hb : decide (l = l') = b) (h1 : Rd w elInt (.slice ad n cap) l) (h2 : Rd w elInt (.slice ad' n' cap') l') (hl : l.length ≤ 9223372036854775807) :
    Calls Tryz.prog 21 #[.slice ad n cap, .slice ad' n' cap'] w (Ret (.bool b) w) := by
  subst hb
  have e1 := h1.n
  have e2 := h2.n
  subst e1 e2
  exact sameInts_calls (a := ⟨ad, l, cap⟩) (b := ⟨ad', l', cap'⟩) h1 h2 hl
end Go.Proofs.YtngeeilkpnihmaaGreatDoor
