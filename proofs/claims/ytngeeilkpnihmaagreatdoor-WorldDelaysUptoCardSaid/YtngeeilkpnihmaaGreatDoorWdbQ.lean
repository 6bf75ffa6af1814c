/- WorldDelays. -/
import Derived.Test.YtngeeilkpnihmaaGreatDoorWdaQ
import Derived.Test.YtngeeilkpnihmaaGreatDoorR8eQ
import Derived.Test.YtngeeilkpnihmaaGreatDoorRbC
set_option linter.all false
namespace Go.Proofs.YtngeeilkpnihmaaGreatDoor
open Go Go.Sk Go.RowKit
set_option maxRecDepth 100000

/-- A reference's robot, new. -/
def new18 (c : ConfV) (j : Nat) (u : Pose) : List Value := c.cells ++ ([.int .i64 j] ++ (u.cells ++ ([.int .i64 0, .int .i64 0, .int .i64 0, .bool false] ++ (Go.Sk.Move.cells mvZ ++ [.int .i64 0, .int .i64 0, .int .i64 0, .bool false, .bool false]))))
set_option maxHeartbeats 1000000 in
theorem ref18_new {c : ConfV} {u : Pose} {j : Nat} {w : World} (hc : Has w (rConf c)) (hr : c.robots.l[j]? = some u) (hj : j ≤ 64) : Calls Tryz.prog 54 #[.agg c.cells.toArray, .int .i64 j] w fun e w' => ∃ p, e = .returned (.pointer (some ⟨p, 0, none⟩)) ∧ Turn (rBlk p (new18 c j u) 116) w w' none' := by
  have hK := Know.start (L := [rConf c]) w (by simpa using hc)
  have HU := Lib.hid hr
  clear hc
  replace hK := hK.part (r := rConf c) (r' := rRd elPose c.robots.val c.robots.l) (by simp) (rAll_mem (by simp))
  clear hr
  go_enter Tryz.func54, Tryz.ntmps54
  go_wp2_with (first
    | ((with_reducible refine wl_at (o := ⟨some 2, .box _ _, _, _, _, _⟩) ?_)
       go_must (refine wl_boxK hK rfl rfl rfl rfl ?_; clear hK; intro w2 b2 hK))
    | ((with_reducible refine wp_region_textK (id := 1) hK (by kernel_rfl) (by kernel_rfl) ?_); clear hK; intro w' hK)
    | ((with_reducible refine wl_at (o := ⟨some 10, _, _, _, _, _⟩) ?_); go_must (refine wl_ixK (i := j) (u := u) hK rfl rfl rfl rfl poseTy.und poseTy.size (hu := HU) (h := ?_); intro b10 k10 hat10))
    | ((with_reducible refine wl_at (o := ⟨some 12, _, _, _, _, _⟩) ?_); go_must (refine wl_pure (v := .agg (new18 c j u).toArray) rfl (fun W => by kernel_rfl) ?_))
    | ((with_reducible refine wl_at (o := ⟨some 13, .box _ _, _, _, _, _⟩) ?_)
       go_must (refine wl_boxK hK rfl rfl rfl rfl ?_; clear hK; intro w13 b13 hK))
    | go_big_skip
    | ((with_reducible refine wl_at (o := ⟨_, .load _ _, _, _, _, _⟩) ?_)
       first
         | refine wl_loadK hK rfl rfl rfl (scalT (by decide)) (h := ?_)
         | refine wl_loadSK hK rfl rfl rfl (aggT (by decide)) (h := ?_)
         | refine wl_loadA0 rfl rfl rfl (scalT (by decide)) (h := ?_)
         | refine wl_loadA rfl rfl rfl (scalT (by decide)) (h := ?_)
         | refine wl_loadSA rfl rfl rfl (aggT (by decide)) (h := ?_))
    | (with_reducible refine atEnd_mk (by kernel_rfl) ?_))
  go_ret
  exact ⟨b13, rfl, (hK.sub (.cons_cons _ (.cons _ .slnil))).turn⟩
theorem ptrTyR : SliceTy Tryz.prog 108 111 elPtr.sz 8 [.pointer none] :=
  SliceTy.mk' (z := .pointer none) (by kernel_rfl) (by kernel_rfl) rfl rfl
set_option maxHeartbeats 4000000 in
theorem ref19_new {c : ConfV} {w : World} (hc : Has w (rConf c)) (hu : Upto c) (hm : MayP c.p) : Calls Tryz.prog 27 #[.agg c.cells.toArray] w fun e w' => ∃ q, e = .returned (.pointer (some ⟨q, 0, none⟩)) ∧ Mod none' w w' := by
  have hK : Know w w none' [] [rConf c] := Know.start (L := [rConf c]) w (by simpa using hc)
  clear hc
  have kS := Lib.hid (fun (W : World) (h : Has W (rConf c)) => rf_new h hu hm)
  obtain ⟨N, hN⟩ : ∃ N, c.robots.l.length = N := ⟨_, rfl⟩
  have hN8 : N ≤ 8 := by rw [← hN]; exact hm.robots8
  have HN := Lib.hid hN
  have hlenV : c.robots.val = .slice c.robots.ad N c.robots.cap := by subst hN; rfl
  have HLV := Lib.hid hlenV
  clear hN hlenV
  go_enter Tryz.func27, Tryz.ntmps27
  go_wp2_with (first
    | ((with_reducible refine wl_at (o := ⟨some 1, .box _ _, _, _, _, _⟩) ?_)
       go_must (refine wl_boxK hK rfl rfl rfl rfl ?_; clear hK; intro w1 b1 hK))
    | (go_at_call 22; go_must (refine (kS.out _ hK.lent).mono ?_; rintro e w' ⟨sp, rfl, hT⟩; replace hK := hK.push1 hT; clear hT))
    | ((with_reducible refine wl_at (o := ⟨some 16, _, _, _, _, _⟩) ?_); go_must (refine wl_pure (v := .agg (c.cells ++ ([.slice none 0 0, .pointer (some ⟨sp, 0, none⟩), .int .i64 0, .slice none 0 0] : List Value)).toArray) rfl (fun W => by kernel_rfl) ?_))
    | ((with_reducible refine wl_at (o := ⟨some 17, .box _ _, _, _, _, _⟩) ?_); go_must (refine wl_boxK (zs := c.cells ++ [.slice none 0 0, .pointer (some ⟨sp, 0, none⟩), .int .i64 0, .slice none 0 0]) hK rfl rfl rfl rfl ?_; clear hK; intro w17 b17 hK))
    | go_big_skip
    | ((with_reducible refine wl_at (o := ⟨_, .load _ _, _, _, _, _⟩) ?_)
       first | refine wl_loadK hK rfl rfl rfl (scalT (by decide)) (h := ?_) | refine wl_loadSK hK rfl rfl rfl (aggT (by decide)) (h := ?_))
    | (with_reducible refine atEnd_mk (by kernel_rfl) ?_))
  replace hK := (hK.sub (M' := [rBlk b17 (c.cells ++ [.slice none 0 0, .pointer (some ⟨sp, 0, none⟩), .int .i64 0, .slice none 0 0]) 110, rBlk b1 c.cells 26]) (.cons_cons _ (.cons _ (.cons_cons _ .slnil)))).nil 111 elPtr
  go_loopg [6] N (fun k t6 wr => ∃ (j : Nat) (ps : List Nat) (ra : Option Addr) (n rc : Nat), t6 = .int .i64 j ∧ k = N - j ∧ j ≤ N ∧ Hid (n = ps.length) ∧ n ≤ j ∧ Know w wr none' [rOw 111 elPtr (.slice ra n rc) ps, rBlk b17 (c.cells ++ [.slice ra n rc, .pointer (some ⟨sp, 0, none⟩), .int .i64 0, .slice none 0 0]) 110, rBlk b1 c.cells 26] [rConf c])
  case atStart => exact ⟨0, [], none, 0, 0, rfl, rfl, by omega, rfl, by omega, hK⟩
  case round =>
    clear hK
    obtain ⟨j, ps, ra, n, rc, rfl, rfl, hj, hn, hnj, hK⟩ := hrel
    by_cases hlt : j < N
    · have dl : decide ((j : Int) < (N : Int)) = true := decide_eq_true (by omega)
      obtain ⟨u, hu2⟩ : ∃ u, c.robots.l[j]? = some u := ⟨_, List.getElem?_eq_getElem (by rw [HN.out]; exact hlt)⟩
      have kR := Lib.hid (fun (W : World) (h : Has W (rConf c)) => ref18_new h hu2 (by omega))
      clear hu2
      go_wp2_with (first
        | ((with_reducible refine wl_at (o := ⟨some 20, _, _, _, _, _⟩) ?_); go_must (refine wl_loadK (v := .slice c.robots.ad N c.robots.cap) hK rfl rfl rfl (scalT (by decide)) (hv := by rw [← HLV.out]; rfl) (h := ?_)))
        | ((with_reducible refine wp_region_lastK (id := 8) hK [4] [rBlk b17 (c.cells ++ [.slice ra n rc, .pointer (some ⟨sp, 0, none⟩), .int .i64 0, .slice none 0 0]) 110] (by kernel_rfl) (by kernel_rfl) (by simp) (by kernel_rfl) ?_); clear hK; intro w' hK; simp only [List.dropLast])
        | (with_reducible refine wpC_of ?_)
        | (with_reducible refine atEndC (hK.cls (by simp)) ?_)
        | ((with_reducible refine wpC_end' ?_); refine wpC_nil ⟨by kernel_rfl, stays_loadK rfl rfl rfl rfl (scalT (by decide)) rfl (rest := stays_nil), ?_⟩; show wpList _ _ _ [_] _ _)
        | (go_at_call 54; go_must (refine (kR.out _ hK.lent).mono ?_; rintro e w' ⟨p, rfl, hT⟩; replace hK := hK.push1 hT; replace hK := hK.sub (.cons _ (List.Sublist.refl _)); clear hT))
        | ((with_reducible refine wl_at (o := ⟨some 33, _, _, _, _, _⟩) ?_); go_must (refine wl_buildK 111 elPtr [p] hK rfl rfl (fun W => by kernel_rfl) rfl (by decide) ?_; clear hK; intro adb w33 hK))
        | ((with_reducible refine wl_at (o := ⟨some 34, _, _, _, _, _⟩) ?_)
           go_must (refine wl_appK (xs := ps) (ys := [p]) hK ptrTyR rfl rfl rfl rfl hK.rd (by have h1 := hn.out; simp; unfold maxLen; omega) (by have h1 := hn.out; simp; omega) (h := ?_); clear hK; intro ad2 N2 cap2 w34 hN2 hK; replace hN2 := Lib.hid hN2; simp only [List.set_cons_zero, List.set_cons_succ] at hK))
        | ((with_reducible refine wl_at (o := ⟨none, .store 108 (.tmp 36) _, _, _, _, _⟩) ?_); go_must (refine wl_storeK (v := .slice ad2 N2 cap2) hK rfl rfl rfl rfl (sizT (by decide)) rfl (hk := by simp [ConfV.cells]) (h := ?_); clear hK; intro w' hK; replace hK : Know w w' none' [rOw 111 elPtr (.slice adb 1 1) [p], rOw 111 elPtr (.slice ad2 N2 cap2) (ps ++ [p]), rBlk b17 (c.cells ++ [.slice ad2 N2 cap2, .pointer (some ⟨sp, 0, none⟩), .int .i64 0, .slice none 0 0]) 110, rBlk b1 c.cells 26] [rConf c] := hK))
        | go_big_skip
        | ((with_reducible refine wl_at (o := ⟨_, .load _ _, _, _, _, _⟩) ?_)
           first | refine wl_loadK hK rfl rfl rfl (scalT (by decide)) (h := ?_) | refine wl_loadSK hK rfl rfl rfl (aggT (by decide)) (h := ?_))
        | (with_reducible refine atEnd_mk (by kernel_rfl) ?_))
      go_roundg (N - (j + 1))
      case measure => omega
      case rel => exact ⟨j + 1, ps ++ [p], ad2, N2, cap2, by go_num, rfl, by omega, hN2, by have h1 := hN2.out; have h2 := hn.out; rw [List.length_append] at h1; simp only [List.length_cons, List.length_nil] at h1; omega, hK.sub (.cons _ (List.Sublist.refl _))⟩
    · have dl : decide ((j : Int) < (N : Int)) = false := decide_eq_false (by omega)
      go_wp2_with (first
        | ((with_reducible refine wl_at (o := ⟨some 20, _, _, _, _, _⟩) ?_); go_must (refine wl_loadK (v := .slice c.robots.ad N c.robots.cap) hK rfl rfl rfl (scalT (by decide)) (hv := by rw [← HLV.out]; rfl) (h := ?_)))
        | go_big_skip
        | ((with_reducible refine wl_at (o := ⟨_, .load _ _, _, _, _, _⟩) ?_)
           first | refine wl_loadK hK rfl rfl rfl (scalT (by decide)) (h := ?_) | refine wl_loadSK hK rfl rfl rfl (aggT (by decide)) (h := ?_))
        | (with_reducible refine atEnd_mk (by kernel_rfl) ?_))
      go_ret
      exact ⟨b17, rfl, hK.mod⟩
end Go.Proofs.YtngeeilkpnihmaaGreatDoor
