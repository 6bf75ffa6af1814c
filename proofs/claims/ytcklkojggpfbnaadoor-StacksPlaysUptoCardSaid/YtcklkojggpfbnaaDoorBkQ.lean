/- StacksBack. -/
import Derived.Test.YtcklkojggpfbnaaDoorStC
set_option linter.all false
namespace Go.Proofs.YtcklkojggpfbnaaDoor
open Go Go.Sk Go.RowKit
set_option maxRecDepth 100000

theorem start_ld {c : ConfP} (i : Nat) : (SM.start c).ld.getD i 0 = 0 := by
  show (List.replicate c.robots.length (0 : Int)).getD i 0 = 0
  rw [List.getD_eq_getElem?_getD, List.getElem?_replicate]
  split <;> rfl
theorem start_drop {c : ConfP} (i : Int) (x : Cell) : (SM.start c).dropE c i x ≠ 0 := by
  unfold SM.dropE dropE
  split
  · rw [if_pos (start_ld _)]; omega
  · omega
theorem start_load {c : ConfP} (i : Int) : (SM.start c).load i = 0 := by
  unfold SM.load
  split
  · exact start_ld _
  · rfl
/-- What stands anywhere at the start: a stack's bins. -/
theorem start_stack {c : ConfP} {x : Cell} (h : (SM.start c).f x ≠ []) : ∃ s ∈ c.stacks, s.at_ = x ∧ (SM.start c).f x = s.bins := by
  change binsIn c.stacks x ≠ [] at h
  show ∃ s ∈ c.stacks, s.at_ = x ∧ binsIn c.stacks x = s.bins
  unfold binsIn at h ⊢
  cases hf : c.stacks.find? fun s => decide (s.at_ = x) with
  | none => rw [hf] at h; exact absurd rfl h
  | some s => exact ⟨s, List.mem_of_find?_eq_some hf, by simpa using List.find?_some hf, rfl⟩
theorem stacked_room {c : ConfP} {x : Cell} (h : stackedB c x = true) : roomP c x = c.height := by
  have h0 := h
  unfold stackedB at h
  simp only [Bool.and_eq_true, decide_eq_true_eq] at h
  have hp : x ∉ c.ports := by
    intro hp
    have := h.1.1.2
    unfold portOf at this
    rw [if_pos hp] at this
    omega
  unfold roomP
  rw [if_neg hp, if_pos h0]
theorem lift_zero {c : ConfP} {m : SM} {i : Int} {x : Cell} (h : m.liftE c i x = 0) : openB c x = true ∧ 0 ≤ i ∧ i < m.ld.length ∧ m.ld.getD i.toNat 0 = 0 ∧ m.f x ≠ [] := by
  unfold SM.liftE liftE at h
  by_cases hc : openB c x = true ∧ 0 ≤ i ∧ i < m.ld.length
  · rw [if_pos hc] at h
    split at h
    · omega
    · split at h
      · omega
      · rename_i h1 h2
        exact ⟨hc.1, hc.2.1, hc.2.2, Decidable.not_not.1 h1, h2⟩
  · rw [if_neg hc] at h; omega
theorem lift_at {c : ConfP} {m : SM} {i : Int} {x : Cell} (h : m.liftE c i x = 0) : m.lift c i x = ⟨putF m.f x (m.f x).dropLast, m.ld.set i.toNat ((m.f x).getLastD 0)⟩ := by
  unfold SM.lift
  rw [if_pos h]
theorem lift_not {c : ConfP} {m : SM} {i : Int} {x : Cell} (h : m.liftE c i x ≠ 0) : m.lift c i x = m ∧ m.liftV c i x = 0 := by
  unfold SM.lift SM.liftV
  rw [if_neg h, if_neg h]
  exact ⟨rfl, rfl⟩
theorem drop_not {c : ConfP} {m : SM} {i : Int} {x : Cell} (h : m.dropE c i x ≠ 0) : m.drop c i x = m := by
  unfold SM.drop
  rw [if_neg h]
theorem drop_at {c : ConfP} {m : SM} {i : Int} {x : Cell} (h : m.dropE c i x = 0) : m.drop c i x = ⟨putF m.f x (m.f x ++ [m.ld.getD i.toNat 0]), m.ld.set i.toNat 0⟩ := by
  unfold SM.drop
  rw [if_pos h]
theorem getLastD_mem {l : List Int} (h : l ≠ []) : l.getLastD 0 ∈ l := by
  rw [List.getLastD_eq_getLast?, List.getLast?_eq_some_getLast h]
  exact List.getLast_mem h
theorem snoc_last {l : List Int} (h : l ≠ []) : l.dropLast ++ [l.getLastD 0] = l := by
  rw [List.getLastD_eq_getLast?, List.getLast?_eq_some_getLast h]
  exact List.dropLast_concat_getLast h
theorem start_bin {c : ConfP} (hm : MayP c) {x : Cell} {b : Int} (h : b ∈ (SM.start c).f x) : 1 ≤ b ∧ b ≤ 1000000000 := by
  obtain ⟨s, hs, _, he⟩ := start_stack (List.ne_nil_of_mem h)
  rw [he] at h
  exact Go.Sk.within_iff.1 (hm.bins b (List.mem_flatMap.2 ⟨s, hs, h⟩))
/-- Lifted and dropped at its place again: as it was. -/
theorem back {c : ConfP} (hm : MayP c) {i : Int} {x : Cell} (h : (SM.start c).liftE c i x = 0) :
    (∀ y, ((SM.start c).lift c i x).liftE c i y ≠ 0) ∧ ((SM.start c).lift c i x).dropE c i x = 0 ∧ ((SM.start c).lift c i x).drop c i x = SM.start c := by
  obtain ⟨h1, h2, h3, h4, h5⟩ := lift_zero h
  have e := lift_at h
  obtain ⟨s, hs, hx, he⟩ := start_stack h5
  have hst := hm.stacked s hs
  rw [hx] at hst
  have hb := start_bin hm (getLastD_mem h5)
  obtain ⟨b, hbb⟩ : ∃ b, b = ((SM.start c).f x).getLastD 0 := ⟨_, rfl⟩
  have hg : ((SM.start c).ld.set i.toNat b).getD i.toNat 0 = b := by
    rw [List.getD_eq_getElem?_getD, List.getElem?_set, if_pos rfl, if_pos (by omega)]
    rfl
  rw [← hbb] at hb e
  have hd : ((SM.start c).lift c i x).dropE c i x = 0 := by
    rw [e]
    unfold SM.dropE dropE
    simp only [List.length_set]
    rw [if_pos ⟨h1, h2, h3⟩, hg, if_neg (by omega)]
    have : (putF (SM.start c).f x ((SM.start c).f x).dropLast x) = ((SM.start c).f x).dropLast := by unfold putF; rw [if_pos rfl]
    have hlp := List.length_pos_iff.2 h5
    rw [he] at hlp
    refine if_neg ?_
    show ¬ (roomP c x ≤ ((putF (SM.start c).f x ((SM.start c).f x).dropLast x).length : Int))
    rw [this, stacked_room hst.1, List.length_dropLast, he]
    omega
  refine ⟨fun y => ?_, hd, ?_⟩
  · rw [e]
    unfold SM.liftE liftE
    simp only [List.length_set]
    split
    · rw [hg, if_pos (by omega)]; omega
    · omega
  · rw [drop_at hd, e]
    simp only
    rw [hg]
    have e1 : putF (putF (SM.start c).f x ((SM.start c).f x).dropLast) x (putF (SM.start c).f x ((SM.start c).f x).dropLast x ++ [b]) = (SM.start c).f := by
      funext y
      unfold putF
      by_cases hy : y = x
      · subst hy
        rw [if_pos rfl, if_pos rfl, hbb]
        exact snoc_last h5
      · rw [if_neg hy, if_neg hy]
    rw [e1, List.set_set]
    have e2 : (SM.start c).ld.set i.toNat 0 = (SM.start c).ld := by
      apply List.ext_getElem?
      intro k
      rw [List.getElem?_set]
      split
      · rename_i hk
        subst hk
        have hl : i.toNat < (SM.start c).ld.length := by omega
        rw [if_pos hl]
        have := start_ld (c := c) i.toNat
        rw [List.getD_eq_getElem?_getD, List.getElem?_eq_getElem hl] at this
        rw [List.getElem?_eq_getElem hl]
        exact congrArg some this.symm
      · rfl
    rw [e2]

open Classical in
set_option maxHeartbeats 4000000 in
theorem back_calls {c : ConfV} {i : Int} {x y : Cell} {w : World} (hc : Has w (rConf c)) (hst : Has w stepsR) (hu : Upto c) (hwf : ∀ p ∈ c.robots.l, PoseWf p) :
    Calls Tryd.prog 5 #[.agg c.cells.toArray, .int .i64 i, .agg x.cells.toArray, .agg y.cells.toArray] w (Ret (.bool true) w) := by
  have hK : Know w w none' [] [rConf c, stepsR] := Know.start (L := [rConf c, stepsR]) w (by
    intro r hr
    simp only [List.mem_cons, List.not_mem_nil, or_false] at hr
    rcases hr with rfl | rfl
    · exact hc
    · exact hst)
  clear hc hst
  obtain ⟨m0, h0⟩ : ∃ m, SM.start c.p = m := ⟨_, rfl⟩
  have M0 := Lib.hid h0
  rcases may_ways c.p with ⟨hn, hm, hs⟩ | ⟨hy, hm, hs⟩ | ⟨hy, hm, hs, hsm⟩
  · have HN := Lib.hid hn
    have HM := Lib.hid hm
    have HS := Lib.hid hs
    clear hn hm hs h0
    go_enter Tryd.func5, Tryd.ntmps5
    go_wp2_with (first
      | ((with_reducible refine wl_at (o := ⟨some 4, .box _ _, _, _, _, _⟩) ?_)
         go_must (refine wl_boxK hK rfl rfl rfl rfl ?_; clear hK; intro w4 b4 hK))
      | ((with_reducible refine wl_at (o := ⟨some 6, .box _ _, _, _, _, _⟩) ?_)
         go_must (refine wl_boxK hK rfl rfl rfl rfl ?_; clear hK; intro w6 b6 hK))
      | ((with_reducible refine wl_at (o := ⟨some 7, .box _ _, _, _, _, _⟩) ?_)
         go_must (refine wl_boxK hK rfl rfl rfl rfl ?_; clear hK; intro w7 b7 hK))
      | (go_at_call 10; go_must (refine (dup_calls (c := c) hK.lent hu).mono ?_; rintro e w' ⟨d, rfl, hd, hT⟩; replace hK := hK.push1 hT; have HD := Lib.hid hd; clear hT hd))
      | (go_at_call 12; go_must (refine (hK.quiet (kn_small HS.out hu hK.lent)).mono ?_; clear hK; rintro e w' ⟨rfl, hK⟩))
      | (go_at_call 13; go_must (refine (hK.quiet (kn_may HM.out hu hK.lent)).mono ?_; clear hK; rintro e w' ⟨rfl, hK⟩))
      | (go_at_call 14; go_must (refine (hK.quiet (awake_calls hK.lent)).mono ?_; clear hK; rintro e w' ⟨rfl, hK⟩))
      | (go_at_call 11; go_must (refine (hK.quiet (kn_no HN.out HD.out hu hwf hK.own hK.lent)).mono ?_; clear hK; rintro e w' ⟨rfl, hK⟩))
      | go_big_skip
      | go_big_skip
      | ((with_reducible refine wl_at (o := ⟨_, .load _ _, _, _, _, _⟩) ?_)
         first
           | refine wl_loadK hK rfl rfl rfl (scalT (by decide)) (h := ?_)
           | refine wl_loadSK hK rfl rfl rfl (aggT (by decide)) (h := ?_)
           | refine wl_loadA0 rfl rfl rfl (scalT (by decide)) (h := ?_)
           | refine wl_loadA rfl rfl rfl (scalT (by decide)) (h := ?_)
           | refine wl_loadSA rfl rfl rfl (aggT (by decide)) (h := ?_))
      | (with_reducible refine atEnd_mk (by kernel_rfl) ?_))
    go_ret
    exact ⟨rfl, hK.mod⟩
  · have HY := Lib.hid hy
    have HM := Lib.hid hm
    have HS := Lib.hid hs
    clear hy hm hs h0
    go_enter Tryd.func5, Tryd.ntmps5
    go_wp2_with (first
      | ((with_reducible refine wl_at (o := ⟨some 4, .box _ _, _, _, _, _⟩) ?_)
         go_must (refine wl_boxK hK rfl rfl rfl rfl ?_; clear hK; intro w4 b4 hK))
      | ((with_reducible refine wl_at (o := ⟨some 6, .box _ _, _, _, _, _⟩) ?_)
         go_must (refine wl_boxK hK rfl rfl rfl rfl ?_; clear hK; intro w6 b6 hK))
      | ((with_reducible refine wl_at (o := ⟨some 7, .box _ _, _, _, _, _⟩) ?_)
         go_must (refine wl_boxK hK rfl rfl rfl rfl ?_; clear hK; intro w7 b7 hK))
      | (go_at_call 10; go_must (refine (dup_calls (c := c) hK.lent hu).mono ?_; rintro e w' ⟨d, rfl, hd, hT⟩; replace hK := hK.push1 hT; have HD := Lib.hid hd; clear hT hd))
      | (go_at_call 12; go_must (refine (hK.quiet (kn_small HS.out hu hK.lent)).mono ?_; clear hK; rintro e w' ⟨rfl, hK⟩))
      | (go_at_call 13; go_must (refine (hK.quiet (kn_may HM.out hu hK.lent)).mono ?_; clear hK; rintro e w' ⟨rfl, hK⟩))
      | (go_at_call 14; go_must (refine (hK.quiet (awake_calls hK.lent)).mono ?_; clear hK; rintro e w' ⟨rfl, hK⟩))
      | (go_at_call 11; go_must (refine (kn_yesX M0.out HY.out HD.out hu hwf hK.own hK.lent).mono ?_; rintro e w' ⟨p, rfl, hT⟩; replace hK := hK.push1 hT; clear hT))
      | go_big_skip
      | go_big_skip
      | ((with_reducible refine wl_at (o := ⟨_, .load _ _, _, _, _, _⟩) ?_)
         first
           | refine wl_loadK hK rfl rfl rfl (scalT (by decide)) (h := ?_)
           | refine wl_loadSK hK rfl rfl rfl (aggT (by decide)) (h := ?_)
           | refine wl_loadA0 rfl rfl rfl (scalT (by decide)) (h := ?_)
           | refine wl_loadA rfl rfl rfl (scalT (by decide)) (h := ?_)
           | refine wl_loadSA rfl rfl rfl (aggT (by decide)) (h := ?_))
      | (with_reducible refine atEnd_mk (by kernel_rfl) ?_))
    go_ret
    exact ⟨rfl, hK.mod⟩
  · have HY := Lib.hid hy
    have HM := Lib.hid hm
    have HS := Lib.hid hs
    have d1 := start_drop (c := c.p) i y
    have hld : Hid (m0.load i = 0) := by show _ = _; rw [← h0]; exact start_load i
    have hok : Hid (SMOk c.p m0) := by show SMOk _ _; rw [← h0]; exact start_ok hy
    have hbk := fun h => back hy (i := i) (x := x) h
    rw [h0] at d1 hbk
    have D1 := Lib.hid (drop_not d1)
    obtain ⟨E1, h1⟩ : ∃ E, m0.dropE c.p i y = E := ⟨_, rfl⟩
    rw [h1] at d1
    have b1 : (E1 == 0) = false := beq_eq_false_iff_ne.2 d1
    have b1' : decide (E1 = 0) = false := decide_eq_false d1
    have H1 := Lib.hid h1
    clear hs hm h1 d1 h0
    obtain ⟨E2, h2⟩ : ∃ E, m0.liftE c.p i x = E := ⟨_, rfl⟩
    obtain ⟨V2, h2v⟩ : ∃ E, m0.liftV c.p i x = E := ⟨_, rfl⟩
    obtain ⟨m1, h2m⟩ : ∃ E, m0.lift c.p i x = E := ⟨_, rfl⟩
    have H2 := Lib.hid h2
    have H2V := Lib.hid h2v
    have H2M := Lib.hid h2m
    by_cases hl : E2 = 0
    · subst hl
      obtain ⟨k1, k2, k3⟩ := hbk h2
      rw [h2m] at k1 k2 k3
      have k1y := k1 y
      have k4 := lift_not k1y
      obtain ⟨E3, h3⟩ : ∃ E, m1.liftE c.p i y = E := ⟨_, rfl⟩
      rw [h3] at k1y
      have b3 : (E3 == 0) = false := beq_eq_false_iff_ne.2 k1y
      have b3' : decide (E3 = 0) = false := decide_eq_false k1y
      have H3 := Lib.hid h3
      have H3V := Lib.hid k4.2
      have H3M := Lib.hid k4.1
      have K2 := Lib.hid k2
      have K3 := Lib.hid k3
      clear k1 k1y h3 h2 k2 k3 hy h2v h2m hbk k4
      go_enter Tryd.func5, Tryd.ntmps5
      go_wp2_with (first
        | ((with_reducible refine wl_at (o := ⟨some 4, .box _ _, _, _, _, _⟩) ?_)
           go_must (refine wl_boxK hK rfl rfl rfl rfl ?_; clear hK; intro w4 b4 hK))
        | ((with_reducible refine wl_at (o := ⟨some 6, .box _ _, _, _, _, _⟩) ?_)
           go_must (refine wl_boxK hK rfl rfl rfl rfl ?_; clear hK; intro w6 b6 hK))
        | ((with_reducible refine wl_at (o := ⟨some 7, .box _ _, _, _, _, _⟩) ?_)
           go_must (refine wl_boxK hK rfl rfl rfl rfl ?_; clear hK; intro w7 b7 hK))
        | (go_at_call 10; go_must (refine (dup_calls (c := c) hK.lent hu).mono ?_; rintro e w' ⟨d, rfl, hd, hT⟩; replace hK := hK.push1 hT; have HD := Lib.hid hd; clear hT hd))
        | (go_at_call 12; go_must (refine (hK.quiet (kn_small HS.out hu hK.lent)).mono ?_; clear hK; rintro e w' ⟨rfl, hK⟩))
        | (go_at_call 13; go_must (refine (hK.quiet (kn_may HM.out hu hK.lent)).mono ?_; clear hK; rintro e w' ⟨rfl, hK⟩))
        | (go_at_call 14; go_must (refine (hK.quiet (awake_calls hK.lent)).mono ?_; clear hK; rintro e w' ⟨rfl, hK⟩))
        | (go_at_call 11; go_must (refine (kn_yesX M0.out HY.out HD.out hu hwf hK.own hK.lent).mono ?_; rintro e w' ⟨p, rfl, hT⟩; replace hK := hK.push1 hT; clear hT))
        | (go_at_call 15; go_must (refine (kn_told (m := m0) hK.own).mono ?_; rintro e w' ⟨ada, na, ka, rfl, hna, hT⟩; replace hK := hK.push1 hT; have HNa := Lib.hid hna; clear hT hna))
        | (go_at_call 23; go_must (first
             | (with_reducible refine (hK.callsI (fun S hS => k_dropX H1.out D1.out hS)).mono ?_; clear hK; rintro e w' ⟨rfl, hK⟩; simp only [List.set_cons_zero, List.set_cons_succ] at hK)
             | (with_reducible refine (hK.callsI (fun S hS => k_dropX K2.out K3.out hS)).mono ?_; clear hK; rintro e w' ⟨rfl, hK⟩; simp only [List.set_cons_zero, List.set_cons_succ] at hK)))
        | (go_at_call 21; go_must (first
             | (with_reducible refine (hK.callsI (fun S hS => k_liftX H2.out H2V.out H2M.out hS)).mono ?_; clear hK; rintro e w' ⟨rfl, hK⟩; simp only [List.set_cons_zero, List.set_cons_succ] at hK)
             | (with_reducible refine (hK.callsI (fun S hS => k_liftX H3.out H3V.out H3M.out hS)).mono ?_; clear hK; rintro e w' ⟨rfl, hK⟩; simp only [List.set_cons_zero, List.set_cons_succ] at hK)))
        | (go_at_call 17; go_must (refine (hK.quiet (kn_same hok.out (decide_eq_true rfl) hK.own hK.own)).mono ?_; clear hK; rintro e w' ⟨rfl, hK⟩))
        | (go_at_call 27; go_must (refine (hK.quiet (k_loadX hld.out hK.own)).mono ?_; clear hK; rintro e w' ⟨rfl, hK⟩))
        | go_big_skip
        | go_big_skip
        | ((with_reducible refine wl_at (o := ⟨_, .load _ _, _, _, _, _⟩) ?_)
           first
             | refine wl_loadK hK rfl rfl rfl (scalT (by decide)) (h := ?_)
             | refine wl_loadSK hK rfl rfl rfl (aggT (by decide)) (h := ?_)
             | refine wl_loadA0 rfl rfl rfl (scalT (by decide)) (h := ?_)
             | refine wl_loadA rfl rfl rfl (scalT (by decide)) (h := ?_)
             | refine wl_loadSA rfl rfl rfl (aggT (by decide)) (h := ?_))
        | (with_reducible refine atEnd_mk (by kernel_rfl) ?_))
      go_ret
      exact ⟨rfl, hK.mod⟩
    · rw [← h2] at hl
      obtain ⟨k1, k2⟩ := lift_not hl
      rw [h2] at hl
      rw [h2m] at k1
      rw [h2v] at k2
      subst k1 k2
      have b2 : (E2 != 0) = true := bne_iff_ne.2 hl
      have b2' : decide (E2 = 0) = false := decide_eq_false hl
      clear hl h2 h2v h2m hy hbk
      go_enter Tryd.func5, Tryd.ntmps5
      go_wp2_with (first
        | ((with_reducible refine wl_at (o := ⟨some 4, .box _ _, _, _, _, _⟩) ?_)
           go_must (refine wl_boxK hK rfl rfl rfl rfl ?_; clear hK; intro w4 b4 hK))
        | ((with_reducible refine wl_at (o := ⟨some 6, .box _ _, _, _, _, _⟩) ?_)
           go_must (refine wl_boxK hK rfl rfl rfl rfl ?_; clear hK; intro w6 b6 hK))
        | ((with_reducible refine wl_at (o := ⟨some 7, .box _ _, _, _, _, _⟩) ?_)
           go_must (refine wl_boxK hK rfl rfl rfl rfl ?_; clear hK; intro w7 b7 hK))
        | (go_at_call 10; go_must (refine (dup_calls (c := c) hK.lent hu).mono ?_; rintro e w' ⟨d, rfl, hd, hT⟩; replace hK := hK.push1 hT; have HD := Lib.hid hd; clear hT hd))
        | (go_at_call 12; go_must (refine (hK.quiet (kn_small HS.out hu hK.lent)).mono ?_; clear hK; rintro e w' ⟨rfl, hK⟩))
        | (go_at_call 13; go_must (refine (hK.quiet (kn_may HM.out hu hK.lent)).mono ?_; clear hK; rintro e w' ⟨rfl, hK⟩))
        | (go_at_call 14; go_must (refine (hK.quiet (awake_calls hK.lent)).mono ?_; clear hK; rintro e w' ⟨rfl, hK⟩))
        | (go_at_call 11; go_must (refine (kn_yesX M0.out HY.out HD.out hu hwf hK.own hK.lent).mono ?_; rintro e w' ⟨p, rfl, hT⟩; replace hK := hK.push1 hT; clear hT))
        | (go_at_call 15; go_must (refine (kn_told (m := m1) hK.own).mono ?_; rintro e w' ⟨ada, na, ka, rfl, hna, hT⟩; replace hK := hK.push1 hT; have HNa := Lib.hid hna; clear hT hna))
        | (go_at_call 23; go_must (refine (hK.callsI (fun S hS => k_dropX H1.out D1.out hS)).mono ?_; clear hK; rintro e w' ⟨rfl, hK⟩; simp only [List.set_cons_zero, List.set_cons_succ] at hK))
        | (go_at_call 21; go_must (refine (hK.callsI (fun S hS => k_liftX H2.out H2V.out H2M.out hS)).mono ?_; clear hK; rintro e w' ⟨rfl, hK⟩; simp only [List.set_cons_zero, List.set_cons_succ] at hK))
        | (go_at_call 17; go_must (refine (hK.quiet (kn_same hok.out (decide_eq_true rfl) hK.own hK.own)).mono ?_; clear hK; rintro e w' ⟨rfl, hK⟩))
        | go_big_skip
        | go_big_skip
        | ((with_reducible refine wl_at (o := ⟨_, .load _ _, _, _, _, _⟩) ?_)
           first
             | refine wl_loadK hK rfl rfl rfl (scalT (by decide)) (h := ?_)
             | refine wl_loadSK hK rfl rfl rfl (aggT (by decide)) (h := ?_)
             | refine wl_loadA0 rfl rfl rfl (scalT (by decide)) (h := ?_)
             | refine wl_loadA rfl rfl rfl (scalT (by decide)) (h := ?_)
             | refine wl_loadSA rfl rfl rfl (aggT (by decide)) (h := ?_))
        | (with_reducible refine atEnd_mk (by kernel_rfl) ?_))
      go_ret
      exact ⟨rfl, hK.mod⟩
theorem backr_calls {c : ConfV} {i : Int} {x y : Cell} {w : World} (hc : Has w (rConf c)) (hst : Has w stepsR) (hu : Upto c) (hwf : ∀ p ∈ c.robots.l, PoseWf p) {P Q R : Prop} (_ : P) (_ : Q) (_ : R) :
    Calls Tryd.prog 5 #[.agg c.cells.toArray, .int .i64 i, .agg x.cells.toArray, .agg y.cells.toArray] w (Ret (.bool true) w) := back_calls hc hst hu hwf
end Go.Proofs.YtcklkojggpfbnaaDoor
