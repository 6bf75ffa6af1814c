/- StacksPlays. -/
import Derived.Test.YtcklkojggpfbnaaDoorSmQ
import Derived.Test.YtcklkojggpfbnaaDoorFdQ
set_option linter.all false
namespace Go.Proofs.YtcklkojggpfbnaaDoor
open Go Go.Sk Go.RowKit
set_option maxRecDepth 100000

/-- A load of a part of a block that stays. -/
theorem stays_loadSP {P : Program} {ops : Array Oper} {k : Nat} {S : List Nat} {a : Act} {o : Oper} {t : TypeId} {x : Operand} {b d n off : Nat} {R : List Res} {cs : List Value} (ds : List Value) {T : TypeId} (ho : ops[k]? = some o) (hop : o.op = .load t x) (hd : o.dst = some d) (hx : a.eval x = .pointer (some ⟨b, off, none⟩))
    (hs : aggB P t n = true) (hm : MemB b cs T R := by repeat (first | exact MemB.head | apply MemB.tail)) (hc : (cs.drop off).take ds.length = ds := by rfl) (hn : ds.length = n := by rfl) (hv : a.tmps.getD d undef = .agg ds.toArray := by rfl) (rest : stays P ops (fun W => ∀ r ∈ R, Has W r) S a) : stays P ops (fun W => ∀ r ∈ R, Has W r) (k :: S) a := by
  intro k' hk o' ho' hw W hW
  rcases List.mem_cons.1 hk with rfl | hk
  · rw [ho] at ho'
    injection ho' with ho'
    subst ho'
    refine .inl ?_
    have hl := run_loadS (P := P) (w := W) (k := off) hs hn ((hW _ hm.mem).blk.at (ds := ds) fun j v hj => by
      rw [← hc, List.getElem?_take, List.getElem?_drop] at hj
      split at hj
      · exact hj
      · cases hj)
    simp only [execOp, hop, hx, Sem.run_bind, hl, Result.andThen_ok, Sem.run_pure, hd, Option.map_some, Option.getD_some, hv]
  · exact rest k' hk o' ho' hw W hW
theorem rf_liftY {c : ConfV} {p : Nat} {m m' : SM} {i E V : Int} {x : Cell} {w : World} {S : Nat → Prop} (h : (rREF c p m).p w S) (hE : Hid (m.liftE c.p i x = E) := by assumption) (hV : Hid (m.liftV c.p i x = V) := by assumption) (hm : Hid (m.lift c.p i x = m') := by assumption) : Calls Tryd.prog 22 #[.pointer (some ⟨p, 0, none⟩), .int .i64 i, .agg x.cells.toArray] w fun e w' =>
    e = .returned (.tuple #[.int .i64 V, .int .i64 E]) ∧ Turn (rREF c p m') w w' S := by
  have := rf_lift (i := i) (x := x) h
  rw [hE.out, hV.out, hm.out] at this
  exact this
theorem rf_dropY {c : ConfV} {p : Nat} {m m' : SM} {i E : Int} {x : Cell} {w : World} {S : Nat → Prop} (hK : Know w w S [rREF c p m] [rConf c]) (hz : Sized c) (hE : Hid (m.dropE c.p i x = E) := by assumption) (hm : Hid (m.drop c.p i x = m') := by assumption) : Calls Tryd.prog 24 #[.pointer (some ⟨p, 0, none⟩), .int .i64 i, .agg x.cells.toArray] w fun e w' =>
    e = .returned (.int .i64 E) ∧ Turn (rREF c p m') w w' S := by
  have := rf_drop (i := i) (x := x) hK hz
  rw [hE.out, hm.out] at this
  exact this
theorem rf_heightY {c : ConfV} {p : Nat} {m : SM} {x : Cell} {V : Int} {w : World} (h : Has w (rREF c p m)) (hV : Hid (m.height c.p x = V) := by assumption) : Calls Tryd.prog 35 #[.pointer (some ⟨p, 0, none⟩), .agg x.cells.toArray] w (Ret (.int .i64 V) w) := by
  have := rf_height (x := x) h
  rw [hV.out] at this
  exact this
theorem rf_topY {c : ConfV} {p : Nat} {m : SM} {x : Cell} {V : Int} {w : World} (h : Has w (rREF c p m)) (hV : Hid (m.top c.p x = V) := by assumption) : Calls Tryd.prog 36 #[.pointer (some ⟨p, 0, none⟩), .agg x.cells.toArray] w (Ret (.int .i64 V) w) := by
  have := rf_top (x := x) h
  rw [hV.out] at this
  exact this

open Classical in
set_option maxHeartbeats 8000000 in
theorem plays_calls {c : ConfV} {sv : Value} {ops : List Op8} {w : World} (hc : Has w (rConf c)) (hst : Has w stepsR) (hu : Upto c) (hwf : ∀ p ∈ c.robots.l, PoseWf p) (hs1 : Rd w elOp8 sv ops) (hs2 : ops.length ≤ 1048576) {Q : Prop} (_ : Q) :
    Calls Tryd.prog 9 #[.agg c.cells.toArray, sv] w (Ret (.bool true) w) := by
  have hK : Know w w none' [] [rRd elOp8 sv ops, rConf c, stepsR] := Know.start (L := [rRd elOp8 sv ops, rConf c, stepsR]) w (by
    intro r hr
    simp only [List.mem_cons, List.not_mem_nil, or_false] at hr
    rcases hr with rfl | rfl | rfl
    · exact hs1.has
    · exact hc
    · exact hst)
  obtain ⟨sa, sc, rfl⟩ := hs1.vee
  clear hc hst hs1
  obtain ⟨m0, h0⟩ : ∃ m, SM.start c.p = m := ⟨_, rfl⟩
  have M0 := Lib.hid h0
  rcases may_ways c.p with ⟨hn, hm, hs⟩ | ⟨hy, hm, hs⟩ | ⟨hy, hm, hs, hsm⟩
  · have HN := Lib.hid hn
    have HM := Lib.hid hm
    have HS := Lib.hid hs
    clear hn hm hs h0
    go_enter Tryd.func9, Tryd.ntmps9
    go_wp2_with (first
      | ((with_reducible refine wl_at (o := ⟨some 2, .box _ _, _, _, _, _⟩) ?_)
         go_must (refine wl_boxK hK rfl rfl rfl rfl ?_; clear hK; intro w2 b2 hK))
      | (go_at_call 10; go_must (refine (dup_calls (c := c) hK.lent hu).mono ?_; rintro e w' ⟨d, rfl, hd, hT⟩; replace hK := hK.push1 hT; have HD := Lib.hid hd; clear hT hd))
      | (go_at_call 12; go_must (refine (hK.quiet (kn_small HS.out hu hK.lent)).mono ?_; clear hK; rintro e w' ⟨rfl, hK⟩))
      | (go_at_call 13; go_must (refine (hK.quiet (kn_may HM.out hu hK.lent)).mono ?_; clear hK; rintro e w' ⟨rfl, hK⟩))
      | (go_at_call 14; go_must (refine (hK.quiet (awake_calls hK.lent)).mono ?_; clear hK; rintro e w' ⟨rfl, hK⟩))
      | (go_at_call 11; go_must (refine (hK.quiet (kn_no HN.out HD.out hu hwf hK.own hK.lent)).mono ?_; clear hK; rintro e w' ⟨rfl, hK⟩))
      | go_big_skip
      | go_big_skip
      | ((with_reducible refine wl_at (o := ⟨_, .load _ _, _, _, _, _⟩) ?_)
         first
           | refine wl_loadK hK rfl rfl rfl (scalT (by decide)) (h := ?_)
           | refine wl_loadSK hK rfl rfl rfl (aggT (by decide)) (h := ?_)
           | refine wl_loadA0 rfl rfl rfl (scalT (by decide)) (h := ?_)
           | refine wl_loadA rfl rfl rfl (scalT (by decide)) (h := ?_)
           | refine wl_loadSA rfl rfl rfl (aggT (by decide)) (h := ?_))
      | (with_reducible refine atEnd_mk (by kernel_rfl) ?_))
    go_ret
    exact ⟨rfl, hK.mod⟩
  · have HY := Lib.hid hy
    have HM := Lib.hid hm
    have HS := Lib.hid hs
    clear hy hm hs h0
    go_enter Tryd.func9, Tryd.ntmps9
    go_wp2_with (first
      | ((with_reducible refine wl_at (o := ⟨some 2, .box _ _, _, _, _, _⟩) ?_)
         go_must (refine wl_boxK hK rfl rfl rfl rfl ?_; clear hK; intro w2 b2 hK))
      | (go_at_call 10; go_must (refine (dup_calls (c := c) hK.lent hu).mono ?_; rintro e w' ⟨d, rfl, hd, hT⟩; replace hK := hK.push1 hT; have HD := Lib.hid hd; clear hT hd))
      | (go_at_call 12; go_must (refine (hK.quiet (kn_small HS.out hu hK.lent)).mono ?_; clear hK; rintro e w' ⟨rfl, hK⟩))
      | (go_at_call 13; go_must (refine (hK.quiet (kn_may HM.out hu hK.lent)).mono ?_; clear hK; rintro e w' ⟨rfl, hK⟩))
      | (go_at_call 14; go_must (refine (hK.quiet (awake_calls hK.lent)).mono ?_; clear hK; rintro e w' ⟨rfl, hK⟩))
      | (go_at_call 11; go_must (refine (kn_yesX M0.out HY.out HD.out hu hwf hK.own hK.lent).mono ?_; rintro e w' ⟨p, rfl, hT⟩; replace hK := hK.push1 hT; clear hT))
      | go_big_skip
      | go_big_skip
      | ((with_reducible refine wl_at (o := ⟨_, .load _ _, _, _, _, _⟩) ?_)
         first
           | refine wl_loadK hK rfl rfl rfl (scalT (by decide)) (h := ?_)
           | refine wl_loadSK hK rfl rfl rfl (aggT (by decide)) (h := ?_)
           | refine wl_loadA0 rfl rfl rfl (scalT (by decide)) (h := ?_)
           | refine wl_loadA rfl rfl rfl (scalT (by decide)) (h := ?_)
           | refine wl_loadSA rfl rfl rfl (aggT (by decide)) (h := ?_))
      | (with_reducible refine atEnd_mk (by kernel_rfl) ?_))
    go_ret
    exact ⟨rfl, hK.mod⟩
  · have HY := Lib.hid hy
    have HM := Lib.hid hm
    have HS := Lib.hid hs
    have hz := Lib.hid hu.sized
    clear hy hm hs h0 hsm
    go_enter Tryd.func9, Tryd.ntmps9
    go_wp2_with (first
      | ((with_reducible refine wl_at (o := ⟨some 2, .box _ _, _, _, _, _⟩) ?_)
         go_must (refine wl_boxK hK rfl rfl rfl rfl ?_; clear hK; intro w2 b2 hK))
      | (go_at_call 10; go_must (refine (dup_calls (c := c) hK.lent hu).mono ?_; rintro e w' ⟨d, rfl, hd, hT⟩; replace hK := hK.push1 hT; have HD := Lib.hid hd; clear hT hd))
      | (go_at_call 12; go_must (refine (hK.quiet (kn_small HS.out hu hK.lent)).mono ?_; clear hK; rintro e w' ⟨rfl, hK⟩))
      | (go_at_call 13; go_must (refine (hK.quiet (kn_may HM.out hu hK.lent)).mono ?_; clear hK; rintro e w' ⟨rfl, hK⟩))
      | (go_at_call 14; go_must (refine (hK.quiet (awake_calls hK.lent)).mono ?_; clear hK; rintro e w' ⟨rfl, hK⟩))
      | (go_at_call 11; go_must (refine (kn_yesX M0.out HY.out HD.out hu hwf hK.own hK.lent).mono ?_; rintro e w' ⟨p, rfl, hT⟩; replace hK := hK.push1 hT; clear hT))
      | (go_at_call 20; go_must (refine (rf_new hK.lent hu HY.out).mono ?_; rintro e w' ⟨pr, rfl, hT⟩; replace hK := hK.push1 hT; rw [M0.out] at hK; clear hT))
      | go_big_skip
      | go_big_skip
      | ((with_reducible refine wl_at (o := ⟨_, .load _ _, _, _, _, _⟩) ?_)
         first
           | refine wl_loadK hK rfl rfl rfl (scalT (by decide)) (h := ?_)
           | refine wl_loadSK hK rfl rfl rfl (aggT (by decide)) (h := ?_)
           | refine wl_loadA0 rfl rfl rfl (scalT (by decide)) (h := ?_)
           | refine wl_loadA rfl rfl rfl (scalT (by decide)) (h := ?_)
           | refine wl_loadSA rfl rfl rfl (aggT (by decide)) (h := ?_))
      | (with_reducible refine atEnd_mk (by kernel_rfl) ?_))
    go_loopg [11, 12, 13, 14, 15, 16] ops.length (fun k i _ _ _ _ _ wr => ∃ (j : Nat) (m : SM), i = .int .i64 j ∧ k = ops.length - j ∧ j ≤ ops.length ∧
      Know w wr none' [rREF c pr m, rSTK c.p p m, rDup d, rBlk b2 c.cells 26] [rRd elOp8 (.slice sa ops.length sc) ops, rConf c, stepsR])
    case atStart => exact ⟨0, m0, rfl, by omega, Nat.zero_le _, hK⟩
    case round =>
      obtain ⟨j, m, rfl, rfl, hj, hK⟩ := hrel
      by_cases hlt : j < ops.length ∧ j < 60
      · obtain ⟨hlt, hlt2⟩ := hlt
        obtain ⟨o, ho⟩ : ∃ o, ops[j]? = some o := ⟨_, List.getElem?_eq_getElem hlt⟩
        have HO := Lib.hid ho
        obtain ⟨q, hq⟩ : ∃ q, o.kind % 4 = q := ⟨_, rfl⟩
        have kPl := Lib.hid (fun (W : World) => show Calls Tryd.prog 16 #[.int .i64 o.kind, .int .i64 4] W fun e w' => e = .returned (.int .i64 q) ∧ w' = W from
          (Place_calls o.kind 4 W (by omega) (by omega)).mono fun e w' h => ⟨by rw [h.1, hq], h.2.symm⟩)
        have hok := stk_ok (hK.own (r := rSTK c.p p m))
        clear ho hq
        by_cases hq2 : q < 2
        · have d1 : decide (q < 2) = true := decide_eq_true hq2
          obtain ⟨E, hE⟩ : ∃ v, m.liftE c.p o.robot o.at_ = v := ⟨_, rfl⟩
          obtain ⟨V, hV⟩ : ∃ v, m.liftV c.p o.robot o.at_ = v := ⟨_, rfl⟩
          obtain ⟨m1, hm1⟩ : ∃ v, m.lift c.p o.robot o.at_ = v := ⟨_, rfl⟩
          have hok1 : SMOk c.p m1 := by rw [← hm1]; exact lift_ok hok
          obtain ⟨G, hG⟩ : ∃ v, m1.height c.p o.at_ = v := ⟨_, rfl⟩
          obtain ⟨T, hT⟩ : ∃ v, m1.top c.p o.at_ = v := ⟨_, rfl⟩
          have HF := Lib.hid (show (m1.f o.at_).length ≤ 9223372036854775807 by have := hok1.short o.at_; omega)
          have HE := Lib.hid hE
          have HV := Lib.hid hV
          have HM1 := Lib.hid hm1
          have HG := Lib.hid hG
          have HT := Lib.hid hT
          clear hq2 hE hV hm1 hG hT hok hok1
          go_wp2_with (first
            | ((with_reducible refine wl_at (o := ⟨some 71, _, _, _, _, _⟩) ?_)
               go_must (refine wl_ixK hK rfl rfl rfl rfl op8Ty.und op8Ty.size (h := ?_); intro b71 k71 hat71))
            | ((with_reducible refine wl_at (o := ⟨some 12, .alloc _, _, _, _, _⟩) ?_)
               go_must (refine wl_allocK (z := .agg ([.int .i64 0, .int .i64 0, .int .i64 0, .int .i64 0]).toArray) (zs := [.int .i64 0, .int .i64 0, .int .i64 0, .int .i64 0]) hK rfl rfl (by kernel_rfl) rfl ?_; clear hK; intro w12 b12 hK))
            | ((with_reducible refine wl_at (o := ⟨none, .store 50 _ _, _, _, _, _⟩) ?_)
               go_must (refine wl_storeWK (vs := Op8.cells o) hK rfl rfl rfl rfl (aggS (by decide)) (elOp8.one o) (h := ?_); clear hK; intro w' hK; simp only [List.set_cons_zero, List.set_cons_succ] at hK))
            | (go_at_call 16; go_must (refine (hK.quiet ((kPl.out _).mono (fun e w' h => ⟨h.1, by rw [h.2]; exact Mod.refl _ _⟩))).mono ?_; clear hK; rintro e w' ⟨rfl, hK⟩))
            | ((with_reducible refine wl_at (o := ⟨some 82, _, _, _, _, _⟩) ?_)
               go_must (refine wl_loadS rfl rfl rfl (aggT (by decide)) rfl (hK.blk.at (ds := Cell.cells (o.at_)) (o := 2) (fun j v h => by rcases j with _ | _ | j <;> first | exact h | (simp [Cell.cells] at h))) ?_))
            | ((with_reducible refine wl_at (o := ⟨some 91, _, _, _, _, _⟩) ?_)
               go_must (refine wl_loadS rfl rfl rfl (aggT (by decide)) rfl (hK.blk.at (ds := Cell.cells (o.at_)) (o := 2) (fun j v h => by rcases j with _ | _ | j <;> first | exact h | (simp [Cell.cells] at h))) ?_))
            | ((with_reducible refine wl_at (o := ⟨some 118, _, _, _, _, _⟩) ?_)
               go_must (refine wl_loadS rfl rfl rfl (aggT (by decide)) rfl (hK.blk.at (ds := Cell.cells (o.at_)) (o := 2) (fun j v h => by rcases j with _ | _ | j <;> first | exact h | (simp [Cell.cells] at h))) ?_))
            | ((with_reducible refine wl_at (o := ⟨some 122, _, _, _, _, _⟩) ?_)
               go_must (refine wl_loadS rfl rfl rfl (aggT (by decide)) rfl (hK.blk.at (ds := Cell.cells (o.at_)) (o := 2) (fun j v h => by rcases j with _ | _ | j <;> first | exact h | (simp [Cell.cells] at h))) ?_))
            | ((with_reducible refine wl_at (o := ⟨some 128, _, _, _, _, _⟩) ?_)
               go_must (refine wl_loadS rfl rfl rfl (aggT (by decide)) rfl (hK.blk.at (ds := Cell.cells (o.at_)) (o := 2) (fun j v h => by rcases j with _ | _ | j <;> first | exact h | (simp [Cell.cells] at h))) ?_))
            | ((with_reducible refine wl_at (o := ⟨some 132, _, _, _, _, _⟩) ?_)
               go_must (refine wl_loadS rfl rfl rfl (aggT (by decide)) rfl (hK.blk.at (ds := Cell.cells (o.at_)) (o := 2) (fun j v h => by rcases j with _ | _ | j <;> first | exact h | (simp [Cell.cells] at h))) ?_))
            | ((with_reducible refine wl_at (o := ⟨some 139, _, _, _, _, _⟩) ?_)
               go_must (refine wl_loadS rfl rfl rfl (aggT (by decide)) rfl (hK.blk.at (ds := Cell.cells (o.at_)) (o := 2) (fun j v h => by rcases j with _ | _ | j <;> first | exact h | (simp [Cell.cells] at h))) ?_))
            | ((with_reducible refine wl_at (o := ⟨some 143, _, _, _, _, _⟩) ?_)
               go_must (refine wl_loadS rfl rfl rfl (aggT (by decide)) rfl (hK.blk.at (ds := Cell.cells (o.at_)) (o := 2) (fun j v h => by rcases j with _ | _ | j <;> first | exact h | (simp [Cell.cells] at h))) ?_))
            | (go_at_call 21; go_must (refine (hK.callsJ (by repeat (first | exact Ix.head | apply Ix.tail)) (fun S hS => k_liftY hS)).mono ?_; clear hK; rintro e w' ⟨rfl, hK⟩; simp only [List.set_cons_zero, List.set_cons_succ] at hK))
            | (go_at_call 29; go_must (refine (hK.quiet (k_heightY hK.own)).mono ?_; clear hK; rintro e w' ⟨rfl, hK⟩))
            | (go_at_call 33; go_must (refine (hK.quiet (k_topY hK.own)).mono ?_; clear hK; rintro e w' ⟨rfl, hK⟩))
            | (go_at_call 22; go_must (refine (hK.callsJ (by repeat (first | exact Ix.head | apply Ix.tail)) (fun S hS => rf_liftY hS)).mono ?_; clear hK; rintro e w' ⟨rfl, hK⟩; simp only [List.set_cons_zero, List.set_cons_succ] at hK))
            | (go_at_call 35; go_must (refine (hK.quiet (rf_heightY hK.own)).mono ?_; clear hK; rintro e w' ⟨rfl, hK⟩))
            | (go_at_call 36; go_must (refine (hK.quiet (rf_topY hK.own)).mono ?_; clear hK; rintro e w' ⟨rfl, hK⟩))
            | (go_at_call 19; go_must (refine (k_At (m := m1) hK.own).mono ?_; rintro e w' ⟨adf, nf, capf, rfl, hT⟩; replace hK := hK.push1 hT; clear hT))
            | (go_at_call 37; go_must (refine (rf_At (m := m1) hK.own).mono ?_; rintro e w' ⟨adr, nr, capr, rfl, hnr, hmr, hrd⟩; replace hK := hK.same hmr; clear hmr hnr))
            | (go_at_call 34; go_must (refine (hK.quiet (same_ints (l := m1.f o.at_) (l' := m1.f o.at_) (decide_eq_true rfl) hK.own.ord hrd HF.out)).mono ?_; clear hK hrd; rintro e w' ⟨rfl, hK⟩))
            | (go_at_call 38; go_must (refine (hK.quiet (same_calls (m := m1) hK.lent hK.own hK.own)).mono ?_; clear hK; rintro e w' ⟨rfl, hK⟩))
            | ((with_reducible refine wp_region_stableK (id := 19) hK [6, 16, 27] [rBlk b12 (Op8.cells o) 50] (by kernel_rfl) (by kernel_rfl) (by simp) (by kernel_rfl) ?_); clear hK; intro w' hK)
            | (with_reducible refine wpC_of ?_)
            | (with_reducible refine atEndC (hK.cls (by simp)) ?_)
            | ((with_reducible refine wpC_end' ?_); refine wpC_nil ⟨by kernel_rfl, stays_loadSP (Cell.cells o.at_) rfl rfl rfl rfl (aggT (by decide)) (rest := stays_loadSP (Cell.cells o.at_) rfl rfl rfl rfl (aggT (by decide)) (rest := stays_loadSP (Cell.cells o.at_) rfl rfl rfl rfl (aggT (by decide)) (rest := stays_nil))), ?_⟩)
            | go_big_skip
            | go_big_skip
            | ((with_reducible refine wl_at (o := ⟨_, .load _ _, _, _, _, _⟩) ?_)
               first
                 | refine wl_loadK hK rfl rfl rfl (scalT (by decide)) (h := ?_)
                 | refine wl_loadSK hK rfl rfl rfl (aggT (by decide)) (h := ?_)
                 | refine wl_loadA0 rfl rfl rfl (scalT (by decide)) (h := ?_)
                 | refine wl_loadA rfl rfl rfl (scalT (by decide)) (h := ?_)
                 | refine wl_loadSA rfl rfl rfl (aggT (by decide)) (h := ?_))
            | (with_reducible refine atEnd_mk (by kernel_rfl) ?_))
          go_roundg (ops.length - (j + 1))
          case measure => omega
          case rel => exact ⟨j + 1, m1, by go_num, rfl, by omega, hK.sub (.cons _ (.cons _ (List.Sublist.refl _)))⟩
        · have d1 : decide (q < 2) = false := decide_eq_false hq2
          obtain ⟨E, hE⟩ : ∃ v, m.dropE c.p o.robot o.at_ = v := ⟨_, rfl⟩
          obtain ⟨m1, hm1⟩ : ∃ v, m.drop c.p o.robot o.at_ = v := ⟨_, rfl⟩
          have hok1 : SMOk c.p m1 := by rw [← hm1]; exact drop_ok hok
          obtain ⟨G, hG⟩ : ∃ v, m1.height c.p o.at_ = v := ⟨_, rfl⟩
          obtain ⟨T, hT⟩ : ∃ v, m1.top c.p o.at_ = v := ⟨_, rfl⟩
          have HF := Lib.hid (show (m1.f o.at_).length ≤ 9223372036854775807 by have := hok1.short o.at_; omega)
          have HE := Lib.hid hE
          have HM1 := Lib.hid hm1
          have HG := Lib.hid hG
          have HT := Lib.hid hT
          clear hq2 hE hm1 hG hT hok hok1
          go_wp2_with (first
            | ((with_reducible refine wl_at (o := ⟨some 71, _, _, _, _, _⟩) ?_)
               go_must (refine wl_ixK hK rfl rfl rfl rfl op8Ty.und op8Ty.size (h := ?_); intro b71 k71 hat71))
            | ((with_reducible refine wl_at (o := ⟨some 12, .alloc _, _, _, _, _⟩) ?_)
               go_must (refine wl_allocK (z := .agg ([.int .i64 0, .int .i64 0, .int .i64 0, .int .i64 0]).toArray) (zs := [.int .i64 0, .int .i64 0, .int .i64 0, .int .i64 0]) hK rfl rfl (by kernel_rfl) rfl ?_; clear hK; intro w12 b12 hK))
            | ((with_reducible refine wl_at (o := ⟨none, .store 50 _ _, _, _, _, _⟩) ?_)
               go_must (refine wl_storeWK (vs := Op8.cells o) hK rfl rfl rfl rfl (aggS (by decide)) (elOp8.one o) (h := ?_); clear hK; intro w' hK; simp only [List.set_cons_zero, List.set_cons_succ] at hK))
            | (go_at_call 16; go_must (refine (hK.quiet ((kPl.out _).mono (fun e w' h => ⟨h.1, by rw [h.2]; exact Mod.refl _ _⟩))).mono ?_; clear hK; rintro e w' ⟨rfl, hK⟩))
            | ((with_reducible refine wl_at (o := ⟨some 107, _, _, _, _, _⟩) ?_)
               go_must (refine wl_loadS rfl rfl rfl (aggT (by decide)) rfl (hK.blk.at (ds := Cell.cells (o.at_)) (o := 2) (fun j v h => by rcases j with _ | _ | j <;> first | exact h | (simp [Cell.cells] at h))) ?_))
            | ((with_reducible refine wl_at (o := ⟨some 113, _, _, _, _, _⟩) ?_)
               go_must (refine wl_loadS rfl rfl rfl (aggT (by decide)) rfl (hK.blk.at (ds := Cell.cells (o.at_)) (o := 2) (fun j v h => by rcases j with _ | _ | j <;> first | exact h | (simp [Cell.cells] at h))) ?_))
            | ((with_reducible refine wl_at (o := ⟨some 118, _, _, _, _, _⟩) ?_)
               go_must (refine wl_loadS rfl rfl rfl (aggT (by decide)) rfl (hK.blk.at (ds := Cell.cells (o.at_)) (o := 2) (fun j v h => by rcases j with _ | _ | j <;> first | exact h | (simp [Cell.cells] at h))) ?_))
            | ((with_reducible refine wl_at (o := ⟨some 122, _, _, _, _, _⟩) ?_)
               go_must (refine wl_loadS rfl rfl rfl (aggT (by decide)) rfl (hK.blk.at (ds := Cell.cells (o.at_)) (o := 2) (fun j v h => by rcases j with _ | _ | j <;> first | exact h | (simp [Cell.cells] at h))) ?_))
            | ((with_reducible refine wl_at (o := ⟨some 128, _, _, _, _, _⟩) ?_)
               go_must (refine wl_loadS rfl rfl rfl (aggT (by decide)) rfl (hK.blk.at (ds := Cell.cells (o.at_)) (o := 2) (fun j v h => by rcases j with _ | _ | j <;> first | exact h | (simp [Cell.cells] at h))) ?_))
            | ((with_reducible refine wl_at (o := ⟨some 132, _, _, _, _, _⟩) ?_)
               go_must (refine wl_loadS rfl rfl rfl (aggT (by decide)) rfl (hK.blk.at (ds := Cell.cells (o.at_)) (o := 2) (fun j v h => by rcases j with _ | _ | j <;> first | exact h | (simp [Cell.cells] at h))) ?_))
            | ((with_reducible refine wl_at (o := ⟨some 139, _, _, _, _, _⟩) ?_)
               go_must (refine wl_loadS rfl rfl rfl (aggT (by decide)) rfl (hK.blk.at (ds := Cell.cells (o.at_)) (o := 2) (fun j v h => by rcases j with _ | _ | j <;> first | exact h | (simp [Cell.cells] at h))) ?_))
            | ((with_reducible refine wl_at (o := ⟨some 143, _, _, _, _, _⟩) ?_)
               go_must (refine wl_loadS rfl rfl rfl (aggT (by decide)) rfl (hK.blk.at (ds := Cell.cells (o.at_)) (o := 2) (fun j v h => by rcases j with _ | _ | j <;> first | exact h | (simp [Cell.cells] at h))) ?_))
            | (go_at_call 23; go_must (refine (hK.callsJ (by repeat (first | exact Ix.head | apply Ix.tail)) (fun S hS => k_dropY hS)).mono ?_; clear hK; rintro e w' ⟨rfl, hK⟩; simp only [List.set_cons_zero, List.set_cons_succ] at hK))
            | (go_at_call 29; go_must (refine (hK.quiet (k_heightY hK.own)).mono ?_; clear hK; rintro e w' ⟨rfl, hK⟩))
            | (go_at_call 33; go_must (refine (hK.quiet (k_topY hK.own)).mono ?_; clear hK; rintro e w' ⟨rfl, hK⟩))
            | (go_at_call 24; go_must (refine (hK.callsK (by repeat (first | exact Ix.head | apply Ix.tail)) (fun S hS => rf_dropY (Know.subL hS (L' := [rConf c]) (by simp)) hz.out)).mono ?_; clear hK; rintro e w' ⟨rfl, hK⟩; simp only [List.set_cons_zero, List.set_cons_succ] at hK))
            | (go_at_call 35; go_must (refine (hK.quiet (rf_heightY hK.own)).mono ?_; clear hK; rintro e w' ⟨rfl, hK⟩))
            | (go_at_call 36; go_must (refine (hK.quiet (rf_topY hK.own)).mono ?_; clear hK; rintro e w' ⟨rfl, hK⟩))
            | (go_at_call 19; go_must (refine (k_At (m := m1) hK.own).mono ?_; rintro e w' ⟨adf, nf, capf, rfl, hT⟩; replace hK := hK.push1 hT; clear hT))
            | (go_at_call 37; go_must (refine (rf_At (m := m1) hK.own).mono ?_; rintro e w' ⟨adr, nr, capr, rfl, hnr, hmr, hrd⟩; replace hK := hK.same hmr; clear hmr hnr))
            | (go_at_call 34; go_must (refine (hK.quiet (same_ints (l := m1.f o.at_) (l' := m1.f o.at_) (decide_eq_true rfl) hK.own.ord hrd HF.out)).mono ?_; clear hK hrd; rintro e w' ⟨rfl, hK⟩))
            | (go_at_call 38; go_must (refine (hK.quiet (same_calls (m := m1) hK.lent hK.own hK.own)).mono ?_; clear hK; rintro e w' ⟨rfl, hK⟩))
            | ((with_reducible refine wp_region_stableK (id := 17) hK [8, 10] [rBlk b12 (Op8.cells o) 50] (by kernel_rfl) (by kernel_rfl) (by simp) (by kernel_rfl) ?_); clear hK; intro w' hK)
            | (with_reducible refine wpC_of ?_)
            | (with_reducible refine atEndC (hK.cls (by simp)) ?_)
            | ((with_reducible refine wpC_end' ?_); refine wpC_nil ⟨by kernel_rfl, stays_loadK rfl rfl rfl rfl (scalT (by decide)) rfl (rest := stays_loadSP (Cell.cells o.at_) rfl rfl rfl rfl (aggT (by decide)) (rest := stays_nil)), ?_⟩)
            | ((with_reducible refine wp_region_stableK (id := 19) hK [6, 16, 27] [rBlk b12 (Op8.cells o) 50] (by kernel_rfl) (by kernel_rfl) (by simp) (by kernel_rfl) ?_); clear hK; intro w' hK)
            | (with_reducible refine wpC_of ?_)
            | (with_reducible refine atEndC (hK.cls (by simp)) ?_)
            | ((with_reducible refine wpC_end' ?_); refine wpC_nil ⟨by kernel_rfl, stays_loadSP (Cell.cells o.at_) rfl rfl rfl rfl (aggT (by decide)) (rest := stays_loadSP (Cell.cells o.at_) rfl rfl rfl rfl (aggT (by decide)) (rest := stays_loadSP (Cell.cells o.at_) rfl rfl rfl rfl (aggT (by decide)) (rest := stays_nil))), ?_⟩)
            | go_big_skip
            | go_big_skip
            | ((with_reducible refine wl_at (o := ⟨_, .load _ _, _, _, _, _⟩) ?_)
               first
                 | refine wl_loadK hK rfl rfl rfl (scalT (by decide)) (h := ?_)
                 | refine wl_loadSK hK rfl rfl rfl (aggT (by decide)) (h := ?_)
                 | refine wl_loadA0 rfl rfl rfl (scalT (by decide)) (h := ?_)
                 | refine wl_loadA rfl rfl rfl (scalT (by decide)) (h := ?_)
                 | refine wl_loadSA rfl rfl rfl (aggT (by decide)) (h := ?_))
            | (with_reducible refine atEnd_mk (by kernel_rfl) ?_))
          go_roundg (ops.length - (j + 1))
          case measure => omega
          case rel => exact ⟨j + 1, m1, by go_num, rfl, by omega, hK.sub (.cons _ (.cons _ (List.Sublist.refl _)))⟩
      · have hend : ¬ j < ops.length ∨ (j < ops.length ∧ ¬ j < 60) := by omega
        rcases hend with he | ⟨he, he2⟩
        all_goals
          go_wp2_with (first
            | (go_at_call 38; go_must (refine (hK.quiet (same_calls (m := m) hK.lent hK.own hK.own)).mono ?_; clear hK; rintro e w' ⟨rfl, hK⟩))
            | (go_at_call 14; go_must (refine (hK.quiet (awake_calls hK.lent)).mono ?_; clear hK; rintro e w' ⟨rfl, hK⟩))
            | go_big_skip
            | go_big_skip
            | ((with_reducible refine wl_at (o := ⟨_, .load _ _, _, _, _, _⟩) ?_)
               first
                 | refine wl_loadK hK rfl rfl rfl (scalT (by decide)) (h := ?_)
                 | refine wl_loadSK hK rfl rfl rfl (aggT (by decide)) (h := ?_)
                 | refine wl_loadA0 rfl rfl rfl (scalT (by decide)) (h := ?_)
                 | refine wl_loadA rfl rfl rfl (scalT (by decide)) (h := ?_)
                 | refine wl_loadSA rfl rfl rfl (aggT (by decide)) (h := ?_))
            | (with_reducible refine atEnd_mk (by kernel_rfl) ?_))
          go_ret
          exact ⟨rfl, hK.mod⟩
end Go.Proofs.YtcklkojggpfbnaaDoor
