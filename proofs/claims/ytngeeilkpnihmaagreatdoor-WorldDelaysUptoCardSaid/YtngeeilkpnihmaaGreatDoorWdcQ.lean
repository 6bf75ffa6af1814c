/- WorldDelays. -/
import Derived.Test.YtngeeilkpnihmaaGreatDoorWdbQ
set_option linter.all false
namespace Go.Proofs.YtngeeilkpnihmaaGreatDoor
open Go Go.Sk Go.RowKit
set_option maxRecDepth 100000

/-- The world of a config's copy. -/
theorem w_newD {c d : ConfV} {w : World} (hm : MayP c.p) (hd : d.p = c.p) (hu : Upto c) (hwf : ∀ p ∈ c.robots.l, PoseWf p) (h : Has w (rDup d)) (hst : Has w stepsR) : Calls Tryz.prog 16 #[.agg d.cells.toArray] w fun e w' =>
    ∃ wp, e = .returned (.tuple #[.pointer (some ⟨wp, 0, none⟩), .int .i64 0]) ∧ Turn (rWLD c.p wp (WM.start c.p)) w w' none' := by
  have h3 : d.robots.l = c.robots.l := congrArg ConfP.robots hd
  have := w_new (c := d) (w := w) (by rw [hd]; exact hm) (dup_has h) hst (upto_p hd hu).sized (by rw [h3]; exact hwf)
  rw [hd] at this
  exact this
set_option maxHeartbeats 2000000 in
theorem play_nil {c : ConfV} {w : World} (hm : MayP c.p) (hu : Upto c) (hwf : ∀ p ∈ c.robots.l, PoseWf p) (hc : Has w (rConf c)) (hst : Has w stepsR) : Calls Tryz.prog 10 #[.agg c.cells.toArray, .slice none 0 0] w fun e w' =>
    ∃ wp, e = .returned (.tuple #[.pointer (some ⟨wp, 0, none⟩), .bool true]) ∧ Turn (rWLD c.p wp (WM.start c.p)) w w' none' := by
  have hK : Know w w none' [] [rConf c, stepsR] := Know.start (L := [rConf c, stepsR]) w (by
    intro r hr
    simp only [List.mem_cons, List.not_mem_nil, or_false] at hr
    rcases hr with rfl | rfl
    · exact hc
    · exact hst)
  clear hc hst
  have kW := Lib.hid (fun (W : World) (d : ConfV) (hd : d.p = c.p) (h : Has W (rDup d)) (h2 : Has W stepsR) => w_newD hm hd hu hwf h h2)
  have kR := Lib.hid (fun (W : World) (h : Has W (rConf c)) => ref19_new h hu hm)
  go_enter Tryz.func10, Tryz.ntmps10
  go_wp2_with (first
    | ((with_reducible refine wl_at (o := ⟨some 2, .box _ _, _, _, _, _⟩) ?_)
       go_must (refine wl_boxK hK rfl rfl rfl rfl ?_; clear hK; intro w2 b2 hK))
    | (go_at_call 26; go_must (refine (dup_calls (c := c) hK.lent hu).mono ?_; rintro e w' ⟨d, rfl, hd, hT⟩; replace hK := hK.push1 hT; have HD := Lib.hid hd; clear hT hd))
    | (go_at_call 16; go_must (refine (kW.out _ _ HD.out hK.own hK.lent).mono ?_; rintro e w' ⟨wp, rfl, hT⟩; replace hK := hK.push1 hT; clear hT))
    | (go_at_call 27; go_must (refine (kR.out _ hK.lent).mono ?_; rintro e w' ⟨q, rfl, hM⟩; replace hK := hK.same hM; clear hM))
    | go_big_skip
    | ((with_reducible refine wl_at (o := ⟨_, .load _ _, _, _, _, _⟩) ?_)
       first | refine wl_loadK hK rfl rfl rfl (scalT (by decide)) (h := ?_) | refine wl_loadSK hK rfl rfl rfl (aggT (by decide)) (h := ?_))
    | (with_reducible refine atEnd_mk (by kernel_rfl) ?_))
  go_loopg [9] 0 (fun k t9 wr => t9 = .int .i64 0 ∧ k = 0 ∧ Know w wr none' [rWLD c.p wp (WM.start c.p), rDup d, rBlk b2 c.cells 26] [rConf c, stepsR])
  case atStart => exact ⟨rfl, rfl, hK⟩
  case round =>
    clear hK
    obtain ⟨rfl, rfl, hK⟩ := hrel
    go_wp2_with (first
      | go_big_skip
      | ((with_reducible refine wl_at (o := ⟨_, .load _ _, _, _, _, _⟩) ?_)
         first | refine wl_loadK hK rfl rfl rfl (scalT (by decide)) (h := ?_) | refine wl_loadSK hK rfl rfl rfl (aggT (by decide)) (h := ?_))
      | (with_reducible refine atEnd_mk (by kernel_rfl) ?_))
    go_ret2
    exact ⟨wp, rfl, (hK.sub (.cons_cons _ (.cons _ (.cons _ .slnil)))).turn⟩

open Classical in
set_option maxHeartbeats 8000000 in
theorem wdelays_calls {c : ConfV} {rb tk : Int} {w : World} (hc : Has w (rConf c)) (hst : Has w stepsR) (hu : Upto c) (hwf : ∀ p ∈ c.robots.l, PoseWf p) (_h1 : -9223372036854775808 ≤ rb ∧ rb ≤ 9223372036854775807) (_h2 : -9223372036854775808 ≤ tk ∧ tk ≤ 9223372036854775807) :
    Calls Tryz.prog 4 #[.agg c.cells.toArray, .int .i64 rb, .int .i64 tk] w (Ret (.bool true) w) := by
  have hK : Know w w none' [] [rConf c, stepsR] := Know.start (L := [rConf c, stepsR]) w (by
    intro r hr
    simp only [List.mem_cons, List.not_mem_nil, or_false] at hr
    rcases hr with rfl | rfl
    · exact hc
    · exact hst)
  clear hc hst
  obtain ⟨sm, hsm⟩ : ∃ sm, decide (smallB c.p) = sm := ⟨_, rfl⟩
  have HS := Lib.hid hsm
  cases sm with
  | false =>
    clear hsm
    go_enter Tryz.func4, Tryz.ntmps4
    go_wp2_with (first
      | ((with_reducible refine wl_at (o := ⟨some 3, .box _ _, _, _, _, _⟩) ?_)
         go_must (refine wl_boxK hK rfl rfl rfl rfl ?_; clear hK; intro w3 b3 hK))
      | (go_at_call 8; go_must (refine (hK.quiet (kn_small HS.out hu hK.lent)).mono ?_; clear hK; rintro e w' ⟨rfl, hK⟩))
      | (go_at_call 9; go_must (refine (hK.quiet (awake19 hK.lent)).mono ?_; clear hK; rintro e w' ⟨rfl, hK⟩))
      | go_big_skip
      | ((with_reducible refine wl_at (o := ⟨_, .load _ _, _, _, _, _⟩) ?_)
         first | refine wl_loadK hK rfl rfl rfl (scalT (by decide)) (h := ?_) | refine wl_loadSK hK rfl rfl rfl (aggT (by decide)) (h := ?_))
      | (with_reducible refine atEnd_mk (by kernel_rfl) ?_))
    go_ret
    exact ⟨rfl, hK.mod⟩
  | true =>
    have hm : MayP c.p := (of_decide_eq_true hsm).2.2.2.2.2.2.2
    clear hsm
    have kP := Lib.hid (fun (W : World) (h1 : Has W (rConf c)) (h2 : Has W stepsR) => play_nil hm hu hwf h1 h2)
    obtain ⟨N, hN⟩ : ∃ N, c.robots.l.length = N := ⟨_, rfl⟩
    have hN8 : N ≤ 8 := by rw [← hN]; exact hm.robots8
    have hrl : (WM.start c.p).rs.length = N := by rw [← hN]; simp [WM.start]; rfl
    have hok : ∀ (i : Nat) r, (WM.start c.p).rs[i]? = some r → RMOk c.p r 0 := by
      intro i r hr
      have hr : (c.robots.l.map RM.start)[i]? = some r := hr
      rw [List.getElem?_map] at hr
      cases hx : c.robots.l[i]? with
      | none => rw [hx] at hr; cases hr
      | some u =>
        rw [hx] at hr
        injection hr with hr
        subst hr
        have := hwf u (List.mem_of_getElem? hx)
        exact RMOk.start ⟨this.x, this.y⟩
    obtain ⟨E, hE⟩ : ∃ E, delayE (WM.start c.p) rb tk = E := ⟨_, rfl⟩
    obtain ⟨m2, hm2⟩ : ∃ m2, (WM.start c.p).delay rb tk = m2 := ⟨_, rfl⟩
    have hml : m2.l = [] := by
      rw [← hm2]
      unfold WM.delay
      split <;> rfl
    have kD := Lib.hid (fun (wp : Nat) (W : World) (S : Nat → Prop) (h : (rWLD c.p wp (WM.start c.p)).p W S) => (show Calls Tryz.prog 13 #[.pointer (some ⟨wp, 0, none⟩), .int .i64 rb, .int .i64 tk] W fun e w' => e = .returned (.int .i64 E) ∧ Turn (rWLD c.p wp m2) W w' S from by
      have := w_delay (i := rb) (d := tk) hok (by omega) (Know.start1 (L := []) h (by simp))
      rw [hE, hm2] at this
      exact this))
    have kS := Lib.hid (fun (wp : Nat) (W : World) (h : Has W (rWLD c.p wp m2)) => (show Calls Tryz.prog 11 #[.pointer (some ⟨wp, 0, none⟩)] W fun e w' => ∃ ad cap, e = .returned (.slice ad 0 cap) ∧ Mod none' W w' from by
      have := w_sights h (by rw [hml]; decide)
      rw [hml] at this
      exact this.mono fun e w' ⟨ad, cap, h1, h2⟩ => ⟨ad, cap, h1, h2.1⟩))
    have hEc : (rb < 0 ∧ E = 1) ∨ (¬ rb < 0 ∧ (N : Int) ≤ rb ∧ E = 1) ∨ (¬ rb < 0 ∧ ¬ (N : Int) ≤ rb ∧ tk < 1 ∧ E = 1) ∨ (¬ rb < 0 ∧ ¬ (N : Int) ≤ rb ∧ ¬ tk < 1 ∧ E = 0) := by
      rw [← hE]
      unfold delayE
      rw [hrl]
      by_cases h : 0 ≤ rb ∧ rb < N ∧ 1 ≤ tk
      · rw [if_pos h]; omega
      · rw [if_neg h]; omega
    have hlenV : c.robots.val = .slice c.robots.ad N c.robots.cap := by subst hN; rfl
    have HLV := Lib.hid hlenV
    clear hE hm2 hml hok hrl hN hm hlenV
    go_enter Tryz.func4, Tryz.ntmps4
    rcases hEc with ⟨c1, e⟩ | ⟨c1, c2, e⟩ | ⟨c1, c2, c3, e⟩ | ⟨c1, c2, c3, e⟩
    all_goals
      subst e
      obtain ⟨dA, hA⟩ : ∃ b, decide (rb < 0) = b := ⟨_, rfl⟩
      obtain ⟨dB, hB⟩ : ∃ b, decide ((N : Int) ≤ rb) = b := ⟨_, rfl⟩
      obtain ⟨dC, hC⟩ : ∃ b, decide (tk < 1) = b := ⟨_, rfl⟩
      have hA' := hA
      first | (rw [decide_eq_true c1] at hA'; subst hA') | (rw [decide_eq_false c1] at hA'; subst hA')
      try (have hB' := hB; first | (rw [decide_eq_true c2] at hB'; subst hB') | (rw [decide_eq_false c2] at hB'; subst hB'))
      try (have hC' := hC; first | (rw [decide_eq_true c3] at hC'; subst hC') | (rw [decide_eq_false c3] at hC'; subst hC'))
      go_wp2_with (first
        | ((with_reducible refine wl_at (o := ⟨some 3, .box _ _, _, _, _, _⟩) ?_)
           go_must (refine wl_boxK hK rfl rfl rfl rfl ?_; clear hK; intro w3 b3 hK))
        | (go_at_call 8; go_must (refine (hK.quiet (kn_small HS.out hu hK.lent)).mono ?_; clear hK; rintro e w' ⟨rfl, hK⟩))
        | (go_at_call 10; go_must (refine (kP.out _ hK.lent hK.lent).mono ?_; rintro e w' ⟨wp, rfl, hT⟩; replace hK := hK.push1 hT; clear hT))
        | (go_at_call 13; go_must (refine (hK.callsI (fun S hS => kD.out wp _ _ hS)).mono ?_; clear hK; rintro e w' ⟨rfl, hK⟩; simp only [List.set_cons_zero, List.set_cons_succ] at hK))
        | go_big_skip
        | ((with_reducible refine wl_at (o := ⟨some 30, _, _, _, _, _⟩) ?_); go_must (refine wl_loadK (v := .slice c.robots.ad N c.robots.cap) hK rfl rfl rfl (scalT (by decide)) (hv := by rw [← HLV.out]; rfl) (h := ?_)))
        | (go_at_call 11; go_must (refine (kS.out wp _ hK.own).mono ?_; rintro e w' ⟨ad, cp, rfl, hM⟩; replace hK := hK.same hM; clear hM))
        | (go_at_call 9; go_must (refine (hK.quiet (awake19 hK.lent)).mono ?_; clear hK; rintro e w' ⟨rfl, hK⟩))
        | go_big_skip
        | ((with_reducible refine wl_at (o := ⟨_, .load _ _, _, _, _, _⟩) ?_)
           first | refine wl_loadK hK rfl rfl rfl (scalT (by decide)) (h := ?_) | refine wl_loadSK hK rfl rfl rfl (aggT (by decide)) (h := ?_))
        | (with_reducible refine atEnd_mk (by kernel_rfl) ?_))
      go_ret
      exact ⟨rfl, hK.mod⟩
end Go.Proofs.YtngeeilkpnihmaaGreatDoor
