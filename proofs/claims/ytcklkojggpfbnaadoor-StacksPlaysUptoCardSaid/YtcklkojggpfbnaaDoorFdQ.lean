/- StacksFinds. -/
import Derived.Test.YtcklkojggpfbnaaDoorR8dQ
import Derived.Test.YtcklkojggpfbnaaDoorR8eQ
import Derived.Test.YtcklkojggpfbnaaDoorStC
set_option linter.all false
namespace Go.Proofs.YtcklkojggpfbnaaDoor
open Go Go.Sk Go.RowKit
set_option maxRecDepth 100000

/-- A call. -/
structure Op8 where
  kind : Int
  robot : Int
  at_ : Cell
def Op8.cells (o : Op8) : List Value := [.int .i64 o.kind, .int .i64 o.robot, .int .i64 o.at_.x, .int .i64 o.at_.y]
abbrev elOp8 : El Op8 := ⟨Op8.cells, 4, fun _ => rfl, fun x v hv => by
  simp only [Op8.cells, List.mem_cons, List.not_mem_nil, or_false] at hv
  rcases hv with rfl | rfl | rfl | rfl <;> rfl⟩
def op8Ks : List (Option IntKind) := [some .i64, some .i64, some .i64, some .i64]
theorem ofk_op8 : ∀ cs, ofKinds op8Ks cs = true → ∃ x, cs = elOp8.cells x := by
  intro cs h
  match cs, h with
  | [.int .i64 a, .int .i64 b, .int .i64 x, .int .i64 y], _ => exact ⟨⟨a, b, ⟨x, y⟩⟩, rfl⟩
theorem opElTy : ElTy Tryd.prog 50 elOp8 op8Ks := ⟨by kernel_rfl, by kernel_rfl, rfl, by decide, ofk_op8⟩
theorem op8Ty : SliceTy Tryd.prog 45 50 elOp8.sz 32 [.int .i64 0, .int .i64 0, .int .i64 0, .int .i64 0] :=
  SliceTy.mk' (z := .agg #[.int .i64 0, .int .i64 0, .int .i64 0, .int .i64 0]) (by kernel_rfl) (by kernel_rfl) rfl rfl
theorem k_findN {c : ConfP} {p : Nat} {m : SM} {b : Int} {w : World} (h : Has w (rSTK c p m)) (hr : m.find c b = none) : Calls Tryd.prog 25 #[.pointer (some ⟨p, 0, none⟩), .int .i64 b] w (Ret (.tuple #[.agg (Cell.mk 0 0).cells.toArray, .int .i64 0, .bool false]) w) := by
  have := k_findX hr h
  exact this
theorem rf_findS {c : ConfV} {p : Nat} {m : SM} {b n : Int} {x : Cell} {w : World} (h : Has w (rREF c p m)) (hr : m.find c.p b = some (x, n)) : Calls Tryd.prog 26 #[.pointer (some ⟨p, 0, none⟩), .int .i64 b] w (Ret (.tuple #[.agg x.cells.toArray, .int .i64 n, .bool true]) w) := by
  have := rf_find (b := b) h
  rw [hr] at this
  exact this
theorem rf_findN {c : ConfV} {p : Nat} {m : SM} {b : Int} {w : World} (h : Has w (rREF c p m)) (hr : m.find c.p b = none) : Calls Tryd.prog 26 #[.pointer (some ⟨p, 0, none⟩), .int .i64 b] w (Ret (.tuple #[.agg (Cell.mk 0 0).cells.toArray, .int .i64 0, .bool false]) w) := by
  have := rf_find (b := b) h
  rw [hr] at this
  exact this

open Classical in
set_option maxHeartbeats 8000000 in
theorem finds_calls {c : ConfV} {sv bv : Value} {ops : List Op8} {bl : List Int} {w : World} (hc : Has w (rConf c)) (hst : Has w stepsR) (hu : Upto c) (hwf : ∀ p ∈ c.robots.l, PoseWf p) (hs1 : Rd w elOp8 sv ops) (hs2 : ops.length ≤ 1048576) {Q : Prop} (_ : Q) (hb1 : Rd w elInt bv bl) (hb2 : bl.length ≤ 1048576) :
    Calls Tryd.prog 4 #[.agg c.cells.toArray, sv, bv] w (Ret (.bool true) w) := by
  have hK : Know w w none' [] [rRd elOp8 sv ops, rRd elInt bv bl, rConf c, stepsR] := Know.start (L := [rRd elOp8 sv ops, rRd elInt bv bl, rConf c, stepsR]) w (by
    intro r hr
    simp only [List.mem_cons, List.not_mem_nil, or_false] at hr
    rcases hr with rfl | rfl | rfl | rfl
    · exact hs1.has
    · exact hb1.has
    · exact hc
    · exact hst)
  obtain ⟨sa, sc, rfl⟩ := hs1.vee
  obtain ⟨ba, bc, rfl⟩ := hb1.vee
  clear hc hst hs1 hb1
  obtain ⟨m0, h0⟩ : ∃ m, SM.start c.p = m := ⟨_, rfl⟩
  have M0 := Lib.hid h0
  rcases may_ways c.p with ⟨hn, hm, hs⟩ | ⟨hy, hm, hs⟩ | ⟨hy, hm, hs, hsm⟩
  · have HN := Lib.hid hn
    have HM := Lib.hid hm
    have HS := Lib.hid hs
    clear hn hm hs h0
    go_enter Tryd.func4, Tryd.ntmps4
    go_wp2_with (first
      | ((with_reducible refine wl_at (o := ⟨some 3, .box _ _, _, _, _, _⟩) ?_)
         go_must (refine wl_boxK hK rfl rfl rfl rfl ?_; clear hK; intro w3 b3 hK))
      | (go_at_call 10; go_must (refine (dup_calls (c := c) hK.lent hu).mono ?_; rintro e w' ⟨d, rfl, hd, hT⟩; replace hK := hK.push1 hT; have HD := Lib.hid hd; clear hT hd))
      | (go_at_call 12; go_must (refine (hK.quiet (kn_small HS.out hu hK.lent)).mono ?_; clear hK; rintro e w' ⟨rfl, hK⟩))
      | (go_at_call 13; go_must (refine (hK.quiet (kn_may HM.out hu hK.lent)).mono ?_; clear hK; rintro e w' ⟨rfl, hK⟩))
      | (go_at_call 14; go_must (refine (hK.quiet (awake_calls hK.lent)).mono ?_; clear hK; rintro e w' ⟨rfl, hK⟩))
      | (go_at_call 11; go_must (refine (hK.quiet (kn_no HN.out HD.out hu hwf hK.own hK.lent)).mono ?_; clear hK; rintro e w' ⟨rfl, hK⟩))
      | go_big_skip
      | go_big_skip
      | ((with_reducible refine wl_at (o := ⟨_, .load _ _, _, _, _, _⟩) ?_)
         first
           | refine wl_loadK hK rfl rfl rfl (scalT (by decide)) (h := ?_)
           | refine wl_loadSK hK rfl rfl rfl (aggT (by decide)) (h := ?_)
           | refine wl_loadA0 rfl rfl rfl (scalT (by decide)) (h := ?_)
           | refine wl_loadA rfl rfl rfl (scalT (by decide)) (h := ?_)
           | refine wl_loadSA rfl rfl rfl (aggT (by decide)) (h := ?_))
      | (with_reducible refine atEnd_mk (by kernel_rfl) ?_))
    go_ret
    exact ⟨rfl, hK.mod⟩
  · have HY := Lib.hid hy
    have HM := Lib.hid hm
    have HS := Lib.hid hs
    clear hy hm hs h0
    go_enter Tryd.func4, Tryd.ntmps4
    go_wp2_with (first
      | ((with_reducible refine wl_at (o := ⟨some 3, .box _ _, _, _, _, _⟩) ?_)
         go_must (refine wl_boxK hK rfl rfl rfl rfl ?_; clear hK; intro w3 b3 hK))
      | (go_at_call 10; go_must (refine (dup_calls (c := c) hK.lent hu).mono ?_; rintro e w' ⟨d, rfl, hd, hT⟩; replace hK := hK.push1 hT; have HD := Lib.hid hd; clear hT hd))
      | (go_at_call 12; go_must (refine (hK.quiet (kn_small HS.out hu hK.lent)).mono ?_; clear hK; rintro e w' ⟨rfl, hK⟩))
      | (go_at_call 13; go_must (refine (hK.quiet (kn_may HM.out hu hK.lent)).mono ?_; clear hK; rintro e w' ⟨rfl, hK⟩))
      | (go_at_call 14; go_must (refine (hK.quiet (awake_calls hK.lent)).mono ?_; clear hK; rintro e w' ⟨rfl, hK⟩))
      | (go_at_call 11; go_must (refine (kn_yesX M0.out HY.out HD.out hu hwf hK.own hK.lent).mono ?_; rintro e w' ⟨p, rfl, hT⟩; replace hK := hK.push1 hT; clear hT))
      | go_big_skip
      | go_big_skip
      | ((with_reducible refine wl_at (o := ⟨_, .load _ _, _, _, _, _⟩) ?_)
         first
           | refine wl_loadK hK rfl rfl rfl (scalT (by decide)) (h := ?_)
           | refine wl_loadSK hK rfl rfl rfl (aggT (by decide)) (h := ?_)
           | refine wl_loadA0 rfl rfl rfl (scalT (by decide)) (h := ?_)
           | refine wl_loadA rfl rfl rfl (scalT (by decide)) (h := ?_)
           | refine wl_loadSA rfl rfl rfl (aggT (by decide)) (h := ?_))
      | (with_reducible refine atEnd_mk (by kernel_rfl) ?_))
    go_ret
    exact ⟨rfl, hK.mod⟩
  · have HY := Lib.hid hy
    have HM := Lib.hid hm
    have HS := Lib.hid hs
    have hz := Lib.hid hu.sized
    clear hy hm hs h0 hsm
    go_enter Tryd.func4, Tryd.ntmps4
    go_wp2_with (first
      | ((with_reducible refine wl_at (o := ⟨some 3, .box _ _, _, _, _, _⟩) ?_)
         go_must (refine wl_boxK hK rfl rfl rfl rfl ?_; clear hK; intro w3 b3 hK))
      | (go_at_call 10; go_must (refine (dup_calls (c := c) hK.lent hu).mono ?_; rintro e w' ⟨d, rfl, hd, hT⟩; replace hK := hK.push1 hT; have HD := Lib.hid hd; clear hT hd))
      | (go_at_call 12; go_must (refine (hK.quiet (kn_small HS.out hu hK.lent)).mono ?_; clear hK; rintro e w' ⟨rfl, hK⟩))
      | (go_at_call 13; go_must (refine (hK.quiet (kn_may HM.out hu hK.lent)).mono ?_; clear hK; rintro e w' ⟨rfl, hK⟩))
      | (go_at_call 14; go_must (refine (hK.quiet (awake_calls hK.lent)).mono ?_; clear hK; rintro e w' ⟨rfl, hK⟩))
      | (go_at_call 11; go_must (refine (kn_yesX M0.out HY.out HD.out hu hwf hK.own hK.lent).mono ?_; rintro e w' ⟨p, rfl, hT⟩; replace hK := hK.push1 hT; clear hT))
      | (go_at_call 20; go_must (refine (rf_new hK.lent hu HY.out).mono ?_; rintro e w' ⟨pr, rfl, hT⟩; replace hK := hK.push1 hT; rw [M0.out] at hK; clear hT))
      | go_big_skip
      | go_big_skip
      | ((with_reducible refine wl_at (o := ⟨_, .load _ _, _, _, _, _⟩) ?_)
         first
           | refine wl_loadK hK rfl rfl rfl (scalT (by decide)) (h := ?_)
           | refine wl_loadSK hK rfl rfl rfl (aggT (by decide)) (h := ?_)
           | refine wl_loadA0 rfl rfl rfl (scalT (by decide)) (h := ?_)
           | refine wl_loadA rfl rfl rfl (scalT (by decide)) (h := ?_)
           | refine wl_loadSA rfl rfl rfl (aggT (by decide)) (h := ?_))
      | (with_reducible refine atEnd_mk (by kernel_rfl) ?_))
    go_loopg [11, 12] ops.length (fun k i _ wr => ∃ (j : Nat) (m : SM), i = .int .i64 j ∧ k = ops.length - j ∧ j ≤ ops.length ∧
      Know w wr none' [rREF c pr m, rSTK c.p p m, rDup d, rBlk b3 c.cells 26] [rRd elOp8 (.slice sa ops.length sc) ops, rRd elInt (.slice ba bl.length bc) bl, rConf c, stepsR])
    case atStart => exact ⟨0, m0, rfl, by omega, Nat.zero_le _, hK⟩
    case round =>
      obtain ⟨j, m, rfl, rfl, hj, hK⟩ := hrel
      by_cases hlt : j < ops.length ∧ j < 40
      · obtain ⟨hlt, hlt2⟩ := hlt
        obtain ⟨o, ho⟩ : ∃ o, ops[j]? = some o := ⟨_, List.getElem?_eq_getElem hlt⟩
        have HO := Lib.hid ho
        obtain ⟨q, hq⟩ : ∃ q, o.kind % 4 = q := ⟨_, rfl⟩
        have kPl := Lib.hid (fun (W : World) => show Calls Tryd.prog 16 #[.int .i64 o.kind, .int .i64 4] W fun e w' => e = .returned (.int .i64 q) ∧ w' = W from
          (Place_calls o.kind 4 W (by omega) (by omega)).mono fun e w' h => ⟨by rw [h.1, hq], h.2.symm⟩)
        clear ho hq
        by_cases hq2 : q < 2
        · have d1 : decide (q < 2) = true := decide_eq_true hq2
          clear hq2
          go_wp2_with (first
            | ((with_reducible refine wl_at (o := ⟨some 60, _, _, _, _, _⟩) ?_)
               go_must (refine wl_ixK hK rfl rfl rfl rfl op8Ty.und op8Ty.size (h := ?_); intro b60 k60 hat60))
            | ((with_reducible refine wl_at (o := ⟨some 12, .alloc _, _, _, _, _⟩) ?_)
               go_must (refine wl_allocK (z := .agg ([.int .i64 0, .int .i64 0, .int .i64 0, .int .i64 0]).toArray) (zs := [.int .i64 0, .int .i64 0, .int .i64 0, .int .i64 0]) hK rfl rfl (by kernel_rfl) rfl ?_; clear hK; intro w12 b12 hK))
            | ((with_reducible refine wl_at (o := ⟨none, .store 50 _ _, _, _, _, _⟩) ?_)
               go_must (refine wl_storeWK (vs := Op8.cells o) hK rfl rfl rfl rfl (aggS (by decide)) (elOp8.one o) (h := ?_); clear hK; intro w' hK; simp only [List.set_cons_zero, List.set_cons_succ] at hK))
            | (go_at_call 16; go_must (refine (hK.quiet ((kPl.out _).mono (fun e w' h => ⟨h.1, by rw [h.2]; exact Mod.refl _ _⟩))).mono ?_; clear hK; rintro e w' ⟨rfl, hK⟩))
            | ((with_reducible refine wl_at (o := ⟨some 70, _, _, _, _, _⟩) ?_)
               go_must (refine wl_loadS rfl rfl rfl (aggT (by decide)) rfl (hK.blk.at (ds := Cell.cells (o.at_)) (o := 2) (fun j v h => by rcases j with _ | _ | j <;> first | exact h | (simp [Cell.cells] at h))) ?_))
            | ((with_reducible refine wl_at (o := ⟨some 76, _, _, _, _, _⟩) ?_)
               go_must (refine wl_loadS rfl rfl rfl (aggT (by decide)) rfl (hK.blk.at (ds := Cell.cells (o.at_)) (o := 2) (fun j v h => by rcases j with _ | _ | j <;> first | exact h | (simp [Cell.cells] at h))) ?_))
            | (go_at_call 21; go_must (refine (hK.callsJ (by repeat (first | exact Ix.head | apply Ix.tail)) (fun S hS => k_lift (i := o.robot) (x := o.at_) hS)).mono ?_; clear hK; rintro e w' ⟨rfl, hK⟩; simp only [List.set_cons_zero, List.set_cons_succ] at hK))
            | (go_at_call 22; go_must (refine (hK.callsJ (by repeat (first | exact Ix.head | apply Ix.tail)) (fun S hS => rf_lift (i := o.robot) (x := o.at_) hS)).mono ?_; clear hK; rintro e w' ⟨rfl, hK⟩; simp only [List.set_cons_zero, List.set_cons_succ] at hK))
            | go_big_skip
            | go_big_skip
            | ((with_reducible refine wl_at (o := ⟨_, .load _ _, _, _, _, _⟩) ?_)
               first
                 | refine wl_loadK hK rfl rfl rfl (scalT (by decide)) (h := ?_)
                 | refine wl_loadSK hK rfl rfl rfl (aggT (by decide)) (h := ?_)
                 | refine wl_loadA0 rfl rfl rfl (scalT (by decide)) (h := ?_)
                 | refine wl_loadA rfl rfl rfl (scalT (by decide)) (h := ?_)
                 | refine wl_loadSA rfl rfl rfl (aggT (by decide)) (h := ?_))
            | (with_reducible refine atEnd_mk (by kernel_rfl) ?_))
          go_roundg (ops.length - (j + 1))
          case measure => omega
          case rel => exact ⟨j + 1, m.lift c.p o.robot o.at_, by go_num, rfl, by omega, hK.sub (.cons _ (List.Sublist.refl _))⟩
        · have d1 : decide (q < 2) = false := decide_eq_false hq2
          clear hq2
          go_wp2_with (first
            | ((with_reducible refine wl_at (o := ⟨some 60, _, _, _, _, _⟩) ?_)
               go_must (refine wl_ixK hK rfl rfl rfl rfl op8Ty.und op8Ty.size (h := ?_); intro b60 k60 hat60))
            | ((with_reducible refine wl_at (o := ⟨some 12, .alloc _, _, _, _, _⟩) ?_)
               go_must (refine wl_allocK (z := .agg ([.int .i64 0, .int .i64 0, .int .i64 0, .int .i64 0]).toArray) (zs := [.int .i64 0, .int .i64 0, .int .i64 0, .int .i64 0]) hK rfl rfl (by kernel_rfl) rfl ?_; clear hK; intro w12 b12 hK))
            | ((with_reducible refine wl_at (o := ⟨none, .store 50 _ _, _, _, _, _⟩) ?_)
               go_must (refine wl_storeWK (vs := Op8.cells o) hK rfl rfl rfl rfl (aggS (by decide)) (elOp8.one o) (h := ?_); clear hK; intro w' hK; simp only [List.set_cons_zero, List.set_cons_succ] at hK))
            | (go_at_call 16; go_must (refine (hK.quiet ((kPl.out _).mono (fun e w' h => ⟨h.1, by rw [h.2]; exact Mod.refl _ _⟩))).mono ?_; clear hK; rintro e w' ⟨rfl, hK⟩))
            | ((with_reducible refine wl_at (o := ⟨some 82, _, _, _, _, _⟩) ?_)
               go_must (refine wl_loadS rfl rfl rfl (aggT (by decide)) rfl (hK.blk.at (ds := Cell.cells (o.at_)) (o := 2) (fun j v h => by rcases j with _ | _ | j <;> first | exact h | (simp [Cell.cells] at h))) ?_))
            | ((with_reducible refine wl_at (o := ⟨some 88, _, _, _, _, _⟩) ?_)
               go_must (refine wl_loadS rfl rfl rfl (aggT (by decide)) rfl (hK.blk.at (ds := Cell.cells (o.at_)) (o := 2) (fun j v h => by rcases j with _ | _ | j <;> first | exact h | (simp [Cell.cells] at h))) ?_))
            | (go_at_call 23; go_must (refine (hK.callsJ (by repeat (first | exact Ix.head | apply Ix.tail)) (fun S hS => k_drop (i := o.robot) (x := o.at_) hS)).mono ?_; clear hK; rintro e w' ⟨rfl, hK⟩; simp only [List.set_cons_zero, List.set_cons_succ] at hK))
            | (go_at_call 24; go_must (refine (hK.callsK (by repeat (first | exact Ix.head | apply Ix.tail)) (fun S hS => rf_drop (i := o.robot) (x := o.at_) (Know.subL hS (L' := [rConf c]) (by simp)) hz.out)).mono ?_; clear hK; rintro e w' ⟨rfl, hK⟩; simp only [List.set_cons_zero, List.set_cons_succ] at hK))
            | go_big_skip
            | go_big_skip
            | ((with_reducible refine wl_at (o := ⟨_, .load _ _, _, _, _, _⟩) ?_)
               first
                 | refine wl_loadK hK rfl rfl rfl (scalT (by decide)) (h := ?_)
                 | refine wl_loadSK hK rfl rfl rfl (aggT (by decide)) (h := ?_)
                 | refine wl_loadA0 rfl rfl rfl (scalT (by decide)) (h := ?_)
                 | refine wl_loadA rfl rfl rfl (scalT (by decide)) (h := ?_)
                 | refine wl_loadSA rfl rfl rfl (aggT (by decide)) (h := ?_))
            | (with_reducible refine atEnd_mk (by kernel_rfl) ?_))
          go_roundg (ops.length - (j + 1))
          case measure => omega
          case rel => exact ⟨j + 1, m.drop c.p o.robot o.at_, by go_num, rfl, by omega, hK.sub (.cons _ (List.Sublist.refl _))⟩
      · have hend : ¬ j < ops.length ∨ (j < ops.length ∧ ¬ j < 40) := by omega
        have ended : True := trivial
        rcases hend with he | ⟨he, he2⟩
        all_goals
          go_wp2_with (first
            | go_big_skip
            | go_big_skip
            | ((with_reducible refine wl_at (o := ⟨_, .load _ _, _, _, _, _⟩) ?_)
               first
                 | refine wl_loadK hK rfl rfl rfl (scalT (by decide)) (h := ?_)
                 | refine wl_loadSK hK rfl rfl rfl (aggT (by decide)) (h := ?_)
                 | refine wl_loadA0 rfl rfl rfl (scalT (by decide)) (h := ?_)
                 | refine wl_loadA rfl rfl rfl (scalT (by decide)) (h := ?_)
                 | refine wl_loadSA rfl rfl rfl (aggT (by decide)) (h := ?_))
            | (with_reducible refine atEnd_mk (by kernel_rfl) ?_))
          go_loopg [13, 14, 15, 16, 17, 18, 19] bl.length (fun k i _ _ _ _ _ _ wr => ∃ (q : Nat) (Z : List Res), i = .int .i64 q ∧ k = bl.length - q ∧ q ≤ bl.length ∧
            Know w wr none' [rREF c pr m, rSTK c.p p m, rDup d, rBlk b3 c.cells 26] [rRd elOp8 (.slice sa ops.length sc) ops, rRd elInt (.slice ba bl.length bc) bl, rConf c, stepsR])
          case atStart => exact ⟨0, [], rfl, by omega, Nat.zero_le _, hK⟩
          case round =>
            obtain ⟨n, _, rfl, rfl, hn, hK⟩ := hrel
            by_cases hnl : n < bl.length ∧ n < 40
            · obtain ⟨hnl, hn2⟩ := hnl
              obtain ⟨v, hv⟩ : ∃ v, bl[n]? = some v := ⟨_, List.getElem?_eq_getElem hnl⟩
              have HV := Lib.hid hv
              obtain ⟨r, hr⟩ : ∃ r, m.find c.p v = r := ⟨_, rfl⟩
              clear hv
              rcases r with _ | ⟨x, z⟩
              · have HR := Lib.hid hr
                clear hr
                go_wp2_with (first
                  | ((with_reducible refine wl_at (o := ⟨some 104, _, _, _, _, _⟩) ?_); go_must (refine wl_ixK (xs := bl) (u := v) hK rfl rfl rfl rfl intTy.und intTy.size (hu := HV) (h := ?_); intro b104 k104 hat104))
                  | ((with_reducible refine wl_at (o := ⟨some 114, _, _, _, _, _⟩) ?_); go_must (refine wl_ixK (xs := bl) (u := v) hK rfl rfl rfl rfl intTy.und intTy.size (hu := HV) (h := ?_); intro b114 k114 hat114))
                  | (go_at_call 25; go_must (refine (hK.quiet (k_findN hK.own HR.out)).mono ?_; clear hK; rintro e w' ⟨rfl, hK⟩))
                  | (go_at_call 26; go_must (refine (hK.quiet (rf_findN hK.own HR.out)).mono ?_; clear hK; rintro e w' ⟨rfl, hK⟩))
                  | ((with_reducible refine wl_at (o := ⟨some 14, .alloc _, _, _, _, _⟩) ?_)
                     go_must (refine wl_allocK (z := .agg ([.int .i64 0, .int .i64 0]).toArray) (zs := [.int .i64 0, .int .i64 0]) hK rfl rfl (by kernel_rfl) rfl ?_; clear hK; intro w14 b14 hK))
                  | ((with_reducible refine wl_at (o := ⟨some 17, .alloc _, _, _, _, _⟩) ?_)
                     go_must (refine wl_allocK (z := .agg ([.int .i64 0, .int .i64 0]).toArray) (zs := [.int .i64 0, .int .i64 0]) hK rfl rfl (by kernel_rfl) rfl ?_; clear hK; intro w17 b17 hK))
                  | ((with_reducible refine wl_at (o := ⟨none, .store 39 _ _, _, _, _, _⟩) ?_)
                     go_must (refine wl_storeWK (vs := Cell.cells ⟨0, 0⟩) hK rfl rfl rfl rfl (aggS (by decide)) (elCell.one _) (h := ?_); clear hK; intro w' hK; simp only [List.set_cons_zero, List.set_cons_succ] at hK))
                  | ((with_reducible refine wl_at (o := ⟨_, .binOp .eql 39 _ _ _, _, _, _, _⟩) ?_)
                     go_must (refine wl_eqlC cellEq rfl rfl rfl rfl ?_))
                  | ((with_reducible refine wl_at (o := ⟨_, .binOp .neq 39 _ _ _, _, _, _, _⟩) ?_)
                     go_must (refine wl_neqC cellEq rfl rfl rfl rfl ?_))
                  | go_big_skip
                  | go_big_skip
                  | ((with_reducible refine wl_at (o := ⟨_, .load _ _, _, _, _, _⟩) ?_)
                     first
                       | refine wl_loadK hK rfl rfl rfl (scalT (by decide)) (h := ?_)
                       | refine wl_loadSK hK rfl rfl rfl (aggT (by decide)) (h := ?_)
                       | refine wl_loadA0 rfl rfl rfl (scalT (by decide)) (h := ?_)
                       | refine wl_loadA rfl rfl rfl (scalT (by decide)) (h := ?_)
                       | refine wl_loadSA rfl rfl rfl (aggT (by decide)) (h := ?_))
                  | (with_reducible refine atEnd_mk (by kernel_rfl) ?_))
                go_roundg (bl.length - (n + 1))
                case measure => omega
                case rel => exact ⟨n + 1, [], by go_num, rfl, by omega, hK.sub (.cons _ (.cons _ (List.Sublist.refl _)))⟩
              · have HR := Lib.hid hr
                clear hr
                go_wp2_with (first
                  | ((with_reducible refine wl_at (o := ⟨some 104, _, _, _, _, _⟩) ?_); go_must (refine wl_ixK (xs := bl) (u := v) hK rfl rfl rfl rfl intTy.und intTy.size (hu := HV) (h := ?_); intro b104 k104 hat104))
                  | ((with_reducible refine wl_at (o := ⟨some 114, _, _, _, _, _⟩) ?_); go_must (refine wl_ixK (xs := bl) (u := v) hK rfl rfl rfl rfl intTy.und intTy.size (hu := HV) (h := ?_); intro b114 k114 hat114))
                  | (go_at_call 25; go_must (refine (hK.quiet (k_findS hK.own HR.out)).mono ?_; clear hK; rintro e w' ⟨rfl, hK⟩))
                  | (go_at_call 26; go_must (refine (hK.quiet (rf_findS hK.own HR.out)).mono ?_; clear hK; rintro e w' ⟨rfl, hK⟩))
                  | ((with_reducible refine wl_at (o := ⟨some 14, .alloc _, _, _, _, _⟩) ?_)
                     go_must (refine wl_allocK (z := .agg ([.int .i64 0, .int .i64 0]).toArray) (zs := [.int .i64 0, .int .i64 0]) hK rfl rfl (by kernel_rfl) rfl ?_; clear hK; intro w14 b14 hK))
                  | ((with_reducible refine wl_at (o := ⟨some 17, .alloc _, _, _, _, _⟩) ?_)
                     go_must (refine wl_allocK (z := .agg ([.int .i64 0, .int .i64 0]).toArray) (zs := [.int .i64 0, .int .i64 0]) hK rfl rfl (by kernel_rfl) rfl ?_; clear hK; intro w17 b17 hK))
                  | ((with_reducible refine wl_at (o := ⟨none, .store 39 _ _, _, _, _, _⟩) ?_)
                     go_must (refine wl_storeWK (vs := Cell.cells x) hK rfl rfl rfl rfl (aggS (by decide)) (elCell.one x) (h := ?_); clear hK; intro w' hK; simp only [List.set_cons_zero, List.set_cons_succ] at hK))
                  | ((with_reducible refine wl_at (o := ⟨_, .binOp .eql 39 _ _ _, _, _, _, _⟩) ?_)
                     go_must (refine wl_eqlC cellEq rfl rfl rfl rfl ?_))
                  | ((with_reducible refine wl_at (o := ⟨_, .binOp .neq 39 _ _ _, _, _, _, _⟩) ?_)
                     go_must (refine wl_neqC cellEq rfl rfl rfl rfl ?_))
                  | go_big_skip
                  | go_big_skip
                  | ((with_reducible refine wl_at (o := ⟨_, .load _ _, _, _, _, _⟩) ?_)
                     first
                       | refine wl_loadK hK rfl rfl rfl (scalT (by decide)) (h := ?_)
                       | refine wl_loadSK hK rfl rfl rfl (aggT (by decide)) (h := ?_)
                       | refine wl_loadA0 rfl rfl rfl (scalT (by decide)) (h := ?_)
                       | refine wl_loadA rfl rfl rfl (scalT (by decide)) (h := ?_)
                       | refine wl_loadSA rfl rfl rfl (aggT (by decide)) (h := ?_))
                  | (with_reducible refine atEnd_mk (by kernel_rfl) ?_))
                go_roundg (bl.length - (n + 1))
                case measure => omega
                case rel => exact ⟨n + 1, [], by go_num, rfl, by omega, hK.sub (.cons _ (.cons _ (List.Sublist.refl _)))⟩
            · have hend : ¬ n < bl.length ∨ (n < bl.length ∧ ¬ n < 40) := by omega
              rcases hend with hf | ⟨hf, hf2⟩
              all_goals
                go_wp2_with (first
                  | (go_at_call 14; go_must (refine (hK.quiet (awake_calls hK.lent)).mono ?_; clear hK; rintro e w' ⟨rfl, hK⟩))
                  | go_big_skip
                  | go_big_skip
                  | ((with_reducible refine wl_at (o := ⟨_, .load _ _, _, _, _, _⟩) ?_)
                     first
                       | refine wl_loadK hK rfl rfl rfl (scalT (by decide)) (h := ?_)
                       | refine wl_loadSK hK rfl rfl rfl (aggT (by decide)) (h := ?_)
                       | refine wl_loadA0 rfl rfl rfl (scalT (by decide)) (h := ?_)
                       | refine wl_loadA rfl rfl rfl (scalT (by decide)) (h := ?_)
                       | refine wl_loadSA rfl rfl rfl (aggT (by decide)) (h := ?_))
                  | (with_reducible refine atEnd_mk (by kernel_rfl) ?_))
                go_ret
                exact ⟨rfl, hK.mod⟩
end Go.Proofs.YtcklkojggpfbnaaDoor
