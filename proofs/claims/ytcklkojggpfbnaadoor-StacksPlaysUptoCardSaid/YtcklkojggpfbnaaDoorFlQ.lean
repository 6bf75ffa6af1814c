/- StacksFull. -/
import Derived.Test.YtcklkojggpfbnaaDoorBkQ
import Derived.Deep.LoopGhost
set_option linter.all false
namespace Go.Proofs.YtcklkojggpfbnaaDoor
open Go Go.Sk Go.RowKit
set_option maxRecDepth 100000

/-- What holds while bins are brought to x. -/
structure FullInv (c : ConfP) (x : Cell) (m : SM) : Prop where
  ok : SMOk c m
  ld : m.ld = (SM.start c).ld
  room : ((m.f x).length : Int) ≤ roomP c x
  pos : ∀ y b, b ∈ m.f y → 1 ≤ b
theorem full_start {c : ConfP} (hm : MayP c) (x : Cell) : FullInv c x (SM.start c) := by
  refine ⟨start_ok hm, rfl, ?_, fun y b hb => (start_bin hm hb).1⟩
  by_cases h : (SM.start c).f x = []
  · rw [h]
    have h8 := (nums_iff.1 hm.nums).height
    unfold roomP
    split <;> (try split) <;> simp <;> omega
  · obtain ⟨s, hs, hx, he⟩ := start_stack h
    have hst := hm.stacked s hs
    rw [hx] at hst
    rw [stacked_room hst.1, he]
    exact hst.2
theorem ld_zero {c : ConfP} {m : SM} (h : m.ld = (SM.start c).ld) (i : Nat) : m.ld.getD i 0 = 0 := by rw [h]; exact start_ld i
theorem ld_pos {c : ConfP} {m : SM} (h : SMOk c m) (hr : c.robots ≠ []) : (0 : Int) < m.ld.length := by
  rw [h.robots]
  have := List.length_pos_iff.2 hr
  omega
theorem lift_yes {c : ConfP} {m : SM} {y : Cell} (ok : SMOk c m) (ld : m.ld = (SM.start c).ld) (hr : c.robots ≠ []) (hy : openB c y = true) (hh : m.f y ≠ []) : m.liftE c 0 y = 0 := by
  unfold SM.liftE liftE
  rw [if_pos ⟨hy, by omega, ld_pos ok hr⟩, if_neg (by rw [ld_zero ld]; simp), if_neg hh]
theorem ld_back {c : ConfP} {m : SM} (h : m.ld = (SM.start c).ld) (b : Int) : (m.ld.set 0 b).set 0 0 = (SM.start c).ld := by
  rw [List.set_set, h]
  apply List.ext_getElem?
  intro k
  rw [List.getElem?_set]
  split
  · rename_i hk
    subst hk
    split
    · rename_i hl
      have := start_ld (c := c) 0
      rw [List.getD_eq_getElem?_getD, List.getElem?_eq_getElem hl] at this
      rw [List.getElem?_eq_getElem hl]
      exact congrArg some this.symm
    · rename_i hl
      exact (List.getElem?_eq_none (by omega)).symm
  · rfl
/-- A bin is lifted from y; what Drop at x then does. -/
theorem move_one {c : ConfP} {x y : Cell} {m : SM} (ok : SMOk c m) (ld : m.ld = (SM.start c).ld) (pos : ∀ y b, b ∈ m.f y → 1 ≤ b) (hr : c.robots ≠ []) (hx : openB c x = true) (hy : openB c y = true) (hne : y ≠ x) (hh : m.f y ≠ []) :
    m.liftE c 0 y = 0 ∧ m.liftV c 0 y = (m.f y).getLastD 0 ∧ (m.lift c 0 y).f x = m.f x ∧
    ((roomP c x ≤ (m.f x).length) → (m.lift c 0 y).dropE c 0 x = 2) ∧
    (¬ (roomP c x ≤ (m.f x).length) → (m.lift c 0 y).dropE c 0 x = 0 ∧ (m.lift c 0 y).drop c 0 x = ⟨putF (putF m.f y (m.f y).dropLast) x (m.f x ++ [(m.f y).getLastD 0]), (SM.start c).ld⟩) := by
  have h1 := lift_yes ok ld hr hy hh
  have e := lift_at h1
  have ev : m.liftV c 0 y = (m.f y).getLastD 0 := by unfold SM.liftV; rw [if_pos h1]
  obtain ⟨b, hb⟩ : ∃ b, b = (m.f y).getLastD 0 := ⟨_, rfl⟩
  have hb1 : 1 ≤ b := by rw [hb]; exact pos y _ (getLastD_mem hh)
  rw [← hb] at e ev ⊢
  have hf : (m.lift c 0 y).f x = m.f x := by rw [e]; show putF m.f y _ x = _; unfold putF; rw [if_neg (fun h => hne h.symm)]
  have hl := ld_pos ok hr
  have hg : (m.ld.set (0 : Int).toNat b).getD (0 : Int).toNat 0 = b := by
    rw [List.getD_eq_getElem?_getD, List.getElem?_set, if_pos rfl, if_pos (by show 0 < _; omega)]
    rfl
  have hlen : ((m.lift c 0 y).ld.length : Int) = m.ld.length := by rw [e]; simp
  have hgl : (m.lift c 0 y).ld.getD (0 : Int).toNat 0 = b := by rw [e]; exact hg
  have hE : (m.lift c 0 y).dropE c 0 x = if roomP c x ≤ (m.f x).length then 2 else 0 := by
    unfold SM.dropE dropE
    rw [if_pos ⟨hx, by omega, by rw [hlen]; exact hl⟩, hgl, if_neg (by omega), hf]
  refine ⟨h1, ev, hf, fun hr => by rw [hE, if_pos hr], fun hr => ?_⟩
  have h0 : (m.lift c 0 y).dropE c 0 x = 0 := by rw [hE, if_neg hr]
  refine ⟨h0, ?_⟩
  rw [drop_at h0, hf, hgl]
  congr 1
  · rw [e]
  · rw [e]; exact ld_back ld b
theorem full_put {c : ConfP} {x y : Cell} {m : SM} (h : FullInv c x m) (hx : openB c x = true) (hy : openB c y = true) (hne : y ≠ x) (hh : m.f y ≠ []) (hr : ¬ (roomP c x ≤ (m.f x).length)) :
    FullInv c x ⟨putF (putF m.f y (m.f y).dropLast) x (m.f x ++ [(m.f y).getLastD 0]), (SM.start c).ld⟩ := by
  have h8 := (nums_iff.1 h.ok.may.nums).height
  have hrm : roomP c x ≤ 8 := by unfold roomP; split <;> (try split) <;> omega
  refine ⟨⟨h.ok.may, fun z => ?_, by rw [← h.ok.robots, h.ld], fun z hz => ?_⟩, rfl, ?_, fun z b hb => ?_⟩
  · show (putF _ x _ z).length ≤ 1024
    unfold putF
    split
    · rw [List.length_append]; simp only [List.length_cons, List.length_nil]; omega
    · split
      · rw [List.length_dropLast]; have := h.ok.short y; omega
      · exact h.ok.short z
  · show putF _ x _ z = []
    unfold putF
    rw [if_neg (fun e => by rw [e, hx] at hz; cases hz), if_neg (fun e => by rw [e, hy] at hz; cases hz)]
    exact h.ok.closed z hz
  · show ((putF _ x _ x).length : Int) ≤ _
    unfold putF
    rw [if_pos rfl, List.length_append]
    simp only [List.length_cons, List.length_nil]
    omega
  · change b ∈ putF _ x _ z at hb
    unfold putF at hb
    split at hb
    · rcases List.mem_append.1 hb with hb | hb
      · exact h.pos x b hb
      · rw [List.mem_singleton] at hb
        rw [hb]
        exact h.pos y _ (getLastD_mem hh)
    · split at hb
      · exact h.pos y b (List.dropLast_subset _ hb)
      · exact h.pos z b hb
theorem port_iff {c : ConfP} {x : Cell} : 0 ≤ portOf c x ↔ x ∈ c.ports := by
  unfold portOf
  split
  · rename_i h; exact ⟨fun _ => h, fun _ => by omega⟩
  · rename_i h; exact ⟨fun h => by omega, fun h' => absurd h' h⟩
theorem told_open {c : ConfP} {m : SM} : ∀ s ∈ m.told c, openB c s.at_ = true ∧ s.bins = m.f s.at_ := by
  intro s hs
  unfold SM.told toldTo at hs
  obtain ⟨k, _, hk⟩ := List.mem_filterMap.1 hs
  unfold tellOne at hk
  split at hk
  · rename_i ho
    injection hk with hk
    subst hk
    exact ⟨ho, rfl⟩
  · cases hk
theorem height_open {c : ConfP} {m : SM} {x : Cell} (h : openB c x = true) : m.height c x = ((m.f x).length : Int) := by
  unfold SM.height
  rw [h]
  rfl

open Classical in
set_option maxHeartbeats 8000000 in
theorem full_calls {c : ConfV} {x : Cell} {w : World} (hc : Has w (rConf c)) (hst : Has w stepsR) (hu : Upto c) (hwf : ∀ p ∈ c.robots.l, PoseWf p) {R : Prop} (_ : R) :
    Calls Tryd.prog 7 #[.agg c.cells.toArray, .agg x.cells.toArray] w (Ret (.bool true) w) := by
  have hK : Know w w none' [] [rConf c, stepsR] := Know.start (L := [rConf c, stepsR]) w (by
    intro r hr
    simp only [List.mem_cons, List.not_mem_nil, or_false] at hr
    rcases hr with rfl | rfl
    · exact hc
    · exact hst)
  clear hc hst
  obtain ⟨m0, h0⟩ : ∃ m, SM.start c.p = m := ⟨_, rfl⟩
  have M0 := Lib.hid h0
  rcases may_ways c.p with ⟨hn, hm, hs⟩ | ⟨hy, hm, hs⟩ | ⟨hy, hm, hs, hsm⟩
  · have HN := Lib.hid hn
    have HM := Lib.hid hm
    have HS := Lib.hid hs
    clear hn hm hs h0
    go_enter Tryd.func7, Tryd.ntmps7
    go_wp2_with (first
      | ((with_reducible refine wl_at (o := ⟨some 2, .box _ _, _, _, _, _⟩) ?_)
         go_must (refine wl_boxK hK rfl rfl rfl rfl ?_; clear hK; intro w2 b2 hK))
      | ((with_reducible refine wl_at (o := ⟨some 3, .box _ _, _, _, _, _⟩) ?_)
         go_must (refine wl_boxK hK rfl rfl rfl rfl ?_; clear hK; intro w3 b3 hK))
      | (go_at_call 10; go_must (refine (dup_calls (c := c) hK.lent hu).mono ?_; rintro e w' ⟨d, rfl, hd, hT⟩; replace hK := hK.push1 hT; have HD := Lib.hid hd; clear hT hd))
      | (go_at_call 12; go_must (refine (hK.quiet (kn_small HS.out hu hK.lent)).mono ?_; clear hK; rintro e w' ⟨rfl, hK⟩))
      | (go_at_call 13; go_must (refine (hK.quiet (kn_may HM.out hu hK.lent)).mono ?_; clear hK; rintro e w' ⟨rfl, hK⟩))
      | (go_at_call 14; go_must (refine (hK.quiet (awake_calls hK.lent)).mono ?_; clear hK; rintro e w' ⟨rfl, hK⟩))
      | (go_at_call 11; go_must (refine (hK.quiet (kn_no HN.out HD.out hu hwf hK.own hK.lent)).mono ?_; clear hK; rintro e w' ⟨rfl, hK⟩))
      | go_big_skip
      | go_big_skip
      | ((with_reducible refine wl_at (o := ⟨_, .load _ _, _, _, _, _⟩) ?_)
         first
           | refine wl_loadK hK rfl rfl rfl (scalT (by decide)) (h := ?_)
           | refine wl_loadSK hK rfl rfl rfl (aggT (by decide)) (h := ?_)
           | refine wl_loadA0 rfl rfl rfl (scalT (by decide)) (h := ?_)
           | refine wl_loadA rfl rfl rfl (scalT (by decide)) (h := ?_)
           | refine wl_loadSA rfl rfl rfl (aggT (by decide)) (h := ?_))
      | (with_reducible refine atEnd_mk (by kernel_rfl) ?_))
    go_ret
    exact ⟨rfl, hK.mod⟩
  · have HY := Lib.hid hy
    have HM := Lib.hid hm
    have HS := Lib.hid hs
    clear hy hm hs h0
    go_enter Tryd.func7, Tryd.ntmps7
    go_wp2_with (first
      | ((with_reducible refine wl_at (o := ⟨some 2, .box _ _, _, _, _, _⟩) ?_)
         go_must (refine wl_boxK hK rfl rfl rfl rfl ?_; clear hK; intro w2 b2 hK))
      | ((with_reducible refine wl_at (o := ⟨some 3, .box _ _, _, _, _, _⟩) ?_)
         go_must (refine wl_boxK hK rfl rfl rfl rfl ?_; clear hK; intro w3 b3 hK))
      | (go_at_call 10; go_must (refine (dup_calls (c := c) hK.lent hu).mono ?_; rintro e w' ⟨d, rfl, hd, hT⟩; replace hK := hK.push1 hT; have HD := Lib.hid hd; clear hT hd))
      | (go_at_call 12; go_must (refine (hK.quiet (kn_small HS.out hu hK.lent)).mono ?_; clear hK; rintro e w' ⟨rfl, hK⟩))
      | (go_at_call 13; go_must (refine (hK.quiet (kn_may HM.out hu hK.lent)).mono ?_; clear hK; rintro e w' ⟨rfl, hK⟩))
      | (go_at_call 14; go_must (refine (hK.quiet (awake_calls hK.lent)).mono ?_; clear hK; rintro e w' ⟨rfl, hK⟩))
      | (go_at_call 11; go_must (refine (kn_yesX M0.out HY.out HD.out hu hwf hK.own hK.lent).mono ?_; rintro e w' ⟨p, rfl, hT⟩; replace hK := hK.push1 hT; clear hT))
      | go_big_skip
      | go_big_skip
      | ((with_reducible refine wl_at (o := ⟨_, .load _ _, _, _, _, _⟩) ?_)
         first
           | refine wl_loadK hK rfl rfl rfl (scalT (by decide)) (h := ?_)
           | refine wl_loadSK hK rfl rfl rfl (aggT (by decide)) (h := ?_)
           | refine wl_loadA0 rfl rfl rfl (scalT (by decide)) (h := ?_)
           | refine wl_loadA rfl rfl rfl (scalT (by decide)) (h := ?_)
           | refine wl_loadSA rfl rfl rfl (aggT (by decide)) (h := ?_))
      | (with_reducible refine atEnd_mk (by kernel_rfl) ?_))
    go_ret
    exact ⟨rfl, hK.mod⟩
  · have HY := Lib.hid hy
    have HM := Lib.hid hm
    have HS := Lib.hid hs
    have hz := Lib.hid hu.sized
    obtain ⟨op, hop⟩ : ∃ b, b = openB c.p x := ⟨_, rfl⟩
    have kO := Lib.hid (fun (W : World) (h : Has W (rConf c)) => show Calls Tryd.prog 30 #[.agg c.cells.toArray, .agg x.cells.toArray] W (Ret (.bool op) W) by rw [hop]; exact ref_open h hz.out)
    obtain ⟨st, hstk⟩ : ∃ b, b = stackedB c.p x := ⟨_, rfl⟩
    have kS := Lib.hid (fun (W : World) (h : Has W (rConf c)) => show Calls Tryd.prog 28 #[.agg c.cells.toArray, .agg x.cells.toArray] W (Ret (.bool st) W) by rw [hstk]; exact ref_stacked h hz.out)
    obtain ⟨po, hpo⟩ : ∃ b, b = portOf c.p x := ⟨_, rfl⟩
    have kP := Lib.hid (fun (W : World) (h : Has W (rConf c)) => show Calls Tryd.prog 31 #[.agg c.cells.toArray, .agg x.cells.toArray] W (Ret (.int .i64 po) W) by rw [hpo]; exact ref_port h hz.out)
    by_cases hrl : c.robots.l.length = 0
    · have r1 : (((c.robots.l.length : Nat) : Int) == 0) = true := by simp [hrl]
      clear hy hm hs h0 hop hstk hpo
      go_enter Tryd.func7, Tryd.ntmps7
      go_wp2_with (first
        | ((with_reducible refine wl_at (o := ⟨some 2, .box _ _, _, _, _, _⟩) ?_)
           go_must (refine wl_boxK hK rfl rfl rfl rfl ?_; clear hK; intro w2 b2 hK))
        | ((with_reducible refine wl_at (o := ⟨some 3, .box _ _, _, _, _, _⟩) ?_)
           go_must (refine wl_boxK hK rfl rfl rfl rfl ?_; clear hK; intro w3 b3 hK))
        | (go_at_call 10; go_must (refine (dup_calls (c := c) hK.lent hu).mono ?_; rintro e w' ⟨d, rfl, hd, hT⟩; replace hK := hK.push1 hT; have HD := Lib.hid hd; clear hT hd))
        | (go_at_call 12; go_must (refine (hK.quiet (kn_small HS.out hu hK.lent)).mono ?_; clear hK; rintro e w' ⟨rfl, hK⟩))
        | (go_at_call 13; go_must (refine (hK.quiet (kn_may HM.out hu hK.lent)).mono ?_; clear hK; rintro e w' ⟨rfl, hK⟩))
        | (go_at_call 14; go_must (refine (hK.quiet (awake_calls hK.lent)).mono ?_; clear hK; rintro e w' ⟨rfl, hK⟩))
        | (go_at_call 11; go_must (refine (kn_yesX M0.out HY.out HD.out hu hwf hK.own hK.lent).mono ?_; rintro e w' ⟨p, rfl, hT⟩; replace hK := hK.push1 hT; clear hT))
        | go_big_skip
        | go_big_skip
        | ((with_reducible refine wl_at (o := ⟨_, .load _ _, _, _, _, _⟩) ?_)
           first
             | refine wl_loadK hK rfl rfl rfl (scalT (by decide)) (h := ?_)
             | refine wl_loadSK hK rfl rfl rfl (aggT (by decide)) (h := ?_)
             | refine wl_loadA0 rfl rfl rfl (scalT (by decide)) (h := ?_)
             | refine wl_loadA rfl rfl rfl (scalT (by decide)) (h := ?_)
             | refine wl_loadSA rfl rfl rfl (aggT (by decide)) (h := ?_))
        | (with_reducible refine atEnd_mk (by kernel_rfl) ?_))
      go_ret
      exact ⟨rfl, hK.mod⟩
    · have r1 : (((c.robots.l.length : Nat) : Int) == 0) = false := by simp; simpa using hrl
      have r1' : (c.robots.l.length == 0) = false := by simp; simpa using hrl
      have r1'' : decide (c.robots.l = []) = false := by simp; simpa using hrl
      cases op
      · clear hy hm hs h0 hop hstk hpo
        go_enter Tryd.func7, Tryd.ntmps7
        go_wp2_with (first
          | ((with_reducible refine wl_at (o := ⟨some 2, .box _ _, _, _, _, _⟩) ?_)
             go_must (refine wl_boxK hK rfl rfl rfl rfl ?_; clear hK; intro w2 b2 hK))
          | ((with_reducible refine wl_at (o := ⟨some 3, .box _ _, _, _, _, _⟩) ?_)
             go_must (refine wl_boxK hK rfl rfl rfl rfl ?_; clear hK; intro w3 b3 hK))
          | (go_at_call 10; go_must (refine (dup_calls (c := c) hK.lent hu).mono ?_; rintro e w' ⟨d, rfl, hd, hT⟩; replace hK := hK.push1 hT; have HD := Lib.hid hd; clear hT hd))
          | (go_at_call 12; go_must (refine (hK.quiet (kn_small HS.out hu hK.lent)).mono ?_; clear hK; rintro e w' ⟨rfl, hK⟩))
          | (go_at_call 13; go_must (refine (hK.quiet (kn_may HM.out hu hK.lent)).mono ?_; clear hK; rintro e w' ⟨rfl, hK⟩))
          | (go_at_call 14; go_must (refine (hK.quiet (awake_calls hK.lent)).mono ?_; clear hK; rintro e w' ⟨rfl, hK⟩))
          | (go_at_call 11; go_must (refine (kn_yesX M0.out HY.out HD.out hu hwf hK.own hK.lent).mono ?_; rintro e w' ⟨p, rfl, hT⟩; replace hK := hK.push1 hT; clear hT))
          | (go_at_call 30; go_must (refine (hK.quiet (kO.out _ hK.lent)).mono ?_; clear hK; rintro e w' ⟨rfl, hK⟩))
          | go_big_skip
          | go_big_skip
          | ((with_reducible refine wl_at (o := ⟨_, .load _ _, _, _, _, _⟩) ?_)
             first
               | refine wl_loadK hK rfl rfl rfl (scalT (by decide)) (h := ?_)
               | refine wl_loadSK hK rfl rfl rfl (aggT (by decide)) (h := ?_)
               | refine wl_loadA0 rfl rfl rfl (scalT (by decide)) (h := ?_)
               | refine wl_loadA rfl rfl rfl (scalT (by decide)) (h := ?_)
               | refine wl_loadSA rfl rfl rfl (aggT (by decide)) (h := ?_))
          | (with_reducible refine atEnd_mk (by kernel_rfl) ?_))
        go_ret
        exact ⟨rfl, hK.mod⟩
      · have hpe := port_iff (c := c.p) (x := x)
        rw [← hpo] at hpe
        have hro : roomP c.p x = if 0 ≤ po then 1 else if st = true then c.height else 0 := by
          unfold roomP
          rw [hstk]
          by_cases hp : x ∈ c.p.ports
          · rw [if_pos hp, if_pos (hpe.2 hp)]
          · rw [if_neg hp, if_neg (fun h => hp (hpe.1 h))]
            rfl
        have hfi := full_start hy x
        rw [h0] at hfi
        have HF := Lib.hid hfi
        have HO := Lib.hid hop.symm
        have hrn : c.p.robots ≠ [] := by
          intro h
          have : c.robots.l = [] := h
          rw [this] at hrl
          exact hrl rfl
        have HRN := Lib.hid hrn
        obtain ⟨room, hroom⟩ : ∃ r, r = roomP c.p x := ⟨_, rfl⟩
        rw [← hroom] at hro
        have HROOM := Lib.hid hroom
        have h8 : room ≤ 8 := by
          have h8 := (nums_iff.1 hy.nums).height
          rw [hroom]; unfold roomP; split <;> (try split) <;> omega
        clear hfi hop hy hm hs h0 hpe hpo hstk hrn hroom hrl
        have hways : Hid ((0 ≤ po ∧ room = 1) ∨ (po < 0 ∧ st = true ∧ room = c.height) ∨ (po < 0 ∧ st = false ∧ room = 0)) := by
          show _ ∨ _ ∨ _
          rw [hro]
          by_cases hp : 0 ≤ po
          · exact .inl ⟨hp, by rw [if_pos hp]⟩
          · cases st
            · exact .inr (.inr ⟨by omega, rfl, by rw [if_neg hp]; rfl⟩)
            · exact .inr (.inl ⟨by omega, rfl, by rw [if_neg hp]; rfl⟩)
        clear hro
        rcases hways with ⟨g1, g2⟩ | ⟨g1, g2, g3⟩ | ⟨g1, g2, g3⟩
        all_goals
          first
            | (have q1 : decide (0 ≤ po) = true := decide_eq_true g1; have q2 : Hid (Value.int .i64 1 = Value.int .i64 room) := congrArg (Value.int .i64) g2.symm; clear g1 g2)
            | (have q1 : decide (0 ≤ po) = false := decide_eq_false (by omega); have q2 : Hid (Value.int .i64 c.height = Value.int .i64 room) := congrArg (Value.int .i64) g3.symm; subst g2; clear g1 g3)
            | (have q1 : decide (0 ≤ po) = false := decide_eq_false (by omega); have q2 : Hid (Value.int .i64 0 = Value.int .i64 room) := congrArg (Value.int .i64) g3.symm; subst g2; clear g1 g3)
        all_goals try cases st
        all_goals
          go_enter Tryd.func7, Tryd.ntmps7
          go_wp2_with (first
            | ((with_reducible refine wl_at (o := ⟨some 2, .box _ _, _, _, _, _⟩) ?_)
               go_must (refine wl_boxK hK rfl rfl rfl rfl ?_; clear hK; intro w2 b2 hK))
            | ((with_reducible refine wl_at (o := ⟨some 3, .box _ _, _, _, _, _⟩) ?_)
               go_must (refine wl_boxK hK rfl rfl rfl rfl ?_; clear hK; intro w3 b3 hK))
            | (go_at_call 10; go_must (refine (dup_calls (c := c) hK.lent hu).mono ?_; rintro e w' ⟨d, rfl, hd, hT⟩; replace hK := hK.push1 hT; have HD := Lib.hid hd; clear hT hd))
            | (go_at_call 12; go_must (refine (hK.quiet (kn_small HS.out hu hK.lent)).mono ?_; clear hK; rintro e w' ⟨rfl, hK⟩))
            | (go_at_call 13; go_must (refine (hK.quiet (kn_may HM.out hu hK.lent)).mono ?_; clear hK; rintro e w' ⟨rfl, hK⟩))
            | (go_at_call 14; go_must (refine (hK.quiet (awake_calls hK.lent)).mono ?_; clear hK; rintro e w' ⟨rfl, hK⟩))
            | (go_at_call 11; go_must (refine (kn_yesX M0.out HY.out HD.out hu hwf hK.own hK.lent).mono ?_; rintro e w' ⟨p, rfl, hT⟩; replace hK := hK.push1 hT; clear hT))
            | (go_at_call 30; go_must (refine (hK.quiet (kO.out _ hK.lent)).mono ?_; clear hK; rintro e w' ⟨rfl, hK⟩))
            | (go_at_call 28; go_must (refine (hK.quiet (kS.out _ hK.lent)).mono ?_; clear hK; rintro e w' ⟨rfl, hK⟩))
            | (go_at_call 31; go_must (refine (hK.quiet (kP.out _ hK.lent)).mono ?_; clear hK; rintro e w' ⟨rfl, hK⟩))
            | (go_at_call 15; go_must (refine (kn_toldX (m := m0) hK.own).mono ?_; rintro e w' ⟨ta, rfl, hta, hT⟩; replace hK := hK.push hT; simp only [List.cons_append, List.nil_append] at hK; have HTa := Lib.hid hta; clear hT hta))
            | go_big_skip
            | go_big_skip
            | ((with_reducible refine wl_at (o := ⟨_, .load _ _, _, _, _, _⟩) ?_)
               first
                 | refine wl_loadK hK rfl rfl rfl (scalT (by decide)) (h := ?_)
                 | refine wl_loadSK hK rfl rfl rfl (aggT (by decide)) (h := ?_)
                 | refine wl_loadA0 rfl rfl rfl (scalT (by decide)) (h := ?_)
                 | refine wl_loadA rfl rfl rfl (scalT (by decide)) (h := ?_)
                 | refine wl_loadSA rfl rfl rfl (aggT (by decide)) (h := ?_))
            | (with_reducible refine atEnd_mk (by kernel_rfl) ?_))
          have hlen := congrArg List.length HTa.out
          rw [List.length_map] at hlen
          have hle := told_len (m := m0) (c := c.p) HY.out
          have hl256 : ta.l.length ≤ 256 := by omega
          clear hlen hle
          have hall := Lib.hid (show ∀ u ∈ ta.l, openB c.p u.at_ = true from fun u hu => (told_open u.p (by rw [← HTa.out]; exact List.mem_map_of_mem hu)).1)
          conv => arg 4; rw [q2.out]
          go_loopg [9, 10, 11, 4] ta.l.length (fun k i _ _ r4 wr => ∃ (j : Nat) (m : SM), i = .int .i64 j ∧ k = ta.l.length - j ∧ j ≤ ta.l.length ∧ r4 = .bool false ∧ Hid (FullInv c.p x m) ∧
            Know w wr none' [rMany (ta.l.map binRes), rOw 42 elStack ta.val ta.l, rSTK c.p p m, rDup d, rBlk b3 x.cells 39, rBlk b2 c.cells 26] [rConf c, stepsR])
          case atStart => exact ⟨0, m0, by first | rfl | exact q2.out.symm, by omega, Nat.zero_le _, rfl, HF, hK⟩
          case round =>
            obtain ⟨j, m, rfl, rfl, hj, rfl, hf, hK⟩ := hrel
            by_cases hlt : j < ta.l.length
            · obtain ⟨u, hu0⟩ : ∃ u, ta.l[j]? = some u := ⟨_, List.getElem?_eq_getElem hlt⟩
              have HU := Lib.hid hu0
              have hou := Lib.hid (hall.out u (List.mem_of_getElem? hu0))
              clear hu0
              go_wp2_with (first
                | go_big_skip
                | ((with_reducible refine wl_at (o := ⟨_, .load _ _, _, _, _, _⟩) ?_)
                   first
                     | refine wl_loadK hK rfl rfl rfl (scalT (by decide)) (h := ?_)
                     | refine wl_loadSK hK rfl rfl rfl (aggT (by decide)) (h := ?_)
                     | refine wl_loadA0 rfl rfl rfl (scalT (by decide)) (h := ?_)
                     | refine wl_loadA rfl rfl rfl (scalT (by decide)) (h := ?_)
                     | refine wl_loadSA rfl rfl rfl (aggT (by decide)) (h := ?_))
                | (with_reducible refine atEnd_mk (by kernel_rfl) ?_))
              go_loopg [10, 11, 4] (m.f u.at_).length (fun k _ _ r4 wr => ∃ (m : SM), k = (m.f u.at_).length ∧ r4 = .bool false ∧ Hid (FullInv c.p x m) ∧
                Know w wr none' [rMany (ta.l.map binRes), rOw 42 elStack ta.val ta.l, rSTK c.p p m, rDup d, rBlk b3 x.cells 39, rBlk b2 c.cells 26] [rConf c, stepsR])
              case atStart => exact ⟨m, rfl, rfl, hf, hK⟩
              case round =>
                clear hf
                obtain ⟨m, rfl, rfl, hf, hK⟩ := hrel
                by_cases hux : u.at_ = x
                · have d1 : decide (u.at_ = x) = true := decide_eq_true hux
                  have HX := Lib.hid hux
                  clear hux
                  go_wp2_with (first
                    | ((with_reducible refine wl_at (o := ⟨some 68, _, _, _, _, _⟩) ?_)
                       go_must (refine wl_ixK hK rfl rfl rfl rfl stackTy.und stackTy.size (h := ?_); intro b68 k68 hat68))
                    | ((with_reducible refine wl_at (o := ⟨some 70, _, _, _, _, _⟩) ?_)
                       go_must (refine wl_loadP0 (Cell.cells (u.at_)) rfl rfl rfl (aggT (by decide)) (h := ?_)))
                    | ((with_reducible refine wl_at (o := ⟨_, .binOp .eql 39 _ _ _, _, _, _, _⟩) ?_)
                       go_must (refine wl_eqlC cellEq rfl rfl rfl rfl ?_))
                    | ((with_reducible refine wl_at (o := ⟨_, .binOp .neq 39 _ _ _, _, _, _, _⟩) ?_)
                       go_must (refine wl_neqC cellEq rfl rfl rfl rfl ?_))
                    | ((with_reducible refine wp_region_textK (id := 13) hK (by kernel_rfl) (by kernel_rfl) ?_); clear hK; intro w' hK)
                    | go_big_skip
                    | go_big_skip
                    | ((with_reducible refine wl_at (o := ⟨_, .load _ _, _, _, _, _⟩) ?_)
                       first
                         | refine wl_loadK hK rfl rfl rfl (scalT (by decide)) (h := ?_)
                         | refine wl_loadSK hK rfl rfl rfl (aggT (by decide)) (h := ?_)
                         | refine wl_loadA0 rfl rfl rfl (scalT (by decide)) (h := ?_)
                         | refine wl_loadA rfl rfl rfl (scalT (by decide)) (h := ?_)
                         | refine wl_loadSA rfl rfl rfl (aggT (by decide)) (h := ?_))
                    | (with_reducible refine atEnd_mk (by kernel_rfl) ?_))
                  go_roundg (ta.l.length - (j + 1))
                  case measure => omega
                  case rel => exact ⟨j + 1, m, by go_num, rfl, by omega, rfl, hf, hK⟩
                · have d1 : decide (u.at_ = x) = false := decide_eq_false hux
                  obtain ⟨n1, hn1⟩ : ∃ n, n = (m.f u.at_).length := ⟨_, rfl⟩
                  have hn1le : n1 ≤ 1024 := by rw [hn1]; exact hf.out.ok.short _
                  by_cases hh : m.f u.at_ = []
                  · have kH1 : Hid (m.height c.p u.at_ = 0) := by show _ = _; rw [height_open hou.out, hh]; rfl
                    clear hux hh hn1
                    go_wp2_with (first
                      | ((with_reducible refine wl_at (o := ⟨some 68, _, _, _, _, _⟩) ?_)
                         go_must (refine wl_ixK hK rfl rfl rfl rfl stackTy.und stackTy.size (h := ?_); intro b68 k68 hat68))
                      | ((with_reducible refine wl_at (o := ⟨some 77, _, _, _, _, _⟩) ?_)
                         go_must (refine wl_ixK hK rfl rfl rfl rfl stackTy.und stackTy.size (h := ?_); intro b77 k77 hat77))
                      | ((with_reducible refine wl_at (o := ⟨some 70, _, _, _, _, _⟩) ?_)
                         go_must (refine wl_loadP0 (Cell.cells (u.at_)) rfl rfl rfl (aggT (by decide)) (h := ?_)))
                      | ((with_reducible refine wl_at (o := ⟨some 79, _, _, _, _, _⟩) ?_)
                         go_must (refine wl_loadP0 (Cell.cells (u.at_)) rfl rfl rfl (aggT (by decide)) (h := ?_)))
                      | ((with_reducible refine wl_at (o := ⟨_, .binOp .eql 39 _ _ _, _, _, _, _⟩) ?_)
                         go_must (refine wl_eqlC cellEq rfl rfl rfl rfl ?_))
                      | ((with_reducible refine wl_at (o := ⟨_, .binOp .neq 39 _ _ _, _, _, _, _⟩) ?_)
                         go_must (refine wl_neqC cellEq rfl rfl rfl rfl ?_))
                      | (go_at_call 29; go_must (refine (hK.quiet (k_heightY hK.own)).mono ?_; clear hK; rintro e w' ⟨rfl, hK⟩))
                      | ((with_reducible refine wp_region_textK (id := 13) hK (by kernel_rfl) (by kernel_rfl) ?_); clear hK; intro w' hK)
                      | go_big_skip
                      | go_big_skip
                      | ((with_reducible refine wl_at (o := ⟨_, .load _ _, _, _, _, _⟩) ?_)
                         first
                           | refine wl_loadK hK rfl rfl rfl (scalT (by decide)) (h := ?_)
                           | refine wl_loadSK hK rfl rfl rfl (aggT (by decide)) (h := ?_)
                           | refine wl_loadA0 rfl rfl rfl (scalT (by decide)) (h := ?_)
                           | refine wl_loadA rfl rfl rfl (scalT (by decide)) (h := ?_)
                           | refine wl_loadSA rfl rfl rfl (aggT (by decide)) (h := ?_))
                      | (with_reducible refine atEnd_mk (by kernel_rfl) ?_))
                    go_roundg (ta.l.length - (j + 1))
                    case measure => omega
                    case rel => exact ⟨j + 1, m, by go_num, rfl, by omega, rfl, hf, hK⟩
                  · obtain ⟨a1, a2, a3, a4, a5⟩ := move_one hf.out.ok hf.out.ld hf.out.pos HRN.out HO.out hou.out hux hh
                    have hn1p : 0 < n1 := by rw [hn1]; exact List.length_pos_iff.2 hh
                    have kH1 : Hid (m.height c.p u.at_ = (n1 : Int)) := by show _ = _; rw [height_open hou.out, hn1]
                    obtain ⟨n2, hn2⟩ : ∃ n, n = (m.f x).length := ⟨_, rfl⟩
                    have hn2le : n2 ≤ 1024 := by rw [hn2]; exact hf.out.ok.short _
                    have kH2 : Hid (m.height c.p x = (n2 : Int)) := by show _ = _; rw [height_open HO.out, hn2]
                    obtain ⟨m1, hm1⟩ : ∃ v, m.lift c.p 0 u.at_ = v := ⟨_, rfl⟩
                    obtain ⟨V, hV⟩ : ∃ v, m.liftV c.p 0 u.at_ = v := ⟨_, rfl⟩
                    have A1 := Lib.hid a1
                    have HV := Lib.hid hV
                    have HM1 := Lib.hid hm1
                    rw [hm1] at a3 a4 a5
                    have kH3 : Hid (m1.height c.p x = (n2 : Int)) := by show _ = _; rw [height_open HO.out, a3, hn2]
                    have c0 : decide (0 < (n1 : Int)) = true := decide_eq_true (by omega)
                    have c0' : decide (0 < n1) = true := decide_eq_true hn1p
                    have HUX := Lib.hid hux
                    have HH := Lib.hid hh
                    by_cases hr : roomP c.p x ≤ (m.f x).length
                    · have c1 : decide (room ≤ (n2 : Int)) = true := decide_eq_true (by rw [HROOM.out, hn2]; exact hr)
                      have A4 := Lib.hid (a4 hr)
                      have A5 : Hid (m1.drop c.p 0 x = m1) := by show _ = _; exact drop_not (by rw [a4 hr]; decide)
                      clear hux hh hn1 hr a1 a2 a3 a4 a5 hn2 hm1 hV
                      go_wp2_with (first
                        | ((with_reducible refine wl_at (o := ⟨some 68, _, _, _, _, _⟩) ?_)
                           go_must (refine wl_ixK hK rfl rfl rfl rfl stackTy.und stackTy.size (h := ?_); intro b68 k68 hat68))
                        | ((with_reducible refine wl_at (o := ⟨some 77, _, _, _, _, _⟩) ?_)
                           go_must (refine wl_ixK hK rfl rfl rfl rfl stackTy.und stackTy.size (h := ?_); intro b77 k77 hat77))
                        | ((with_reducible refine wl_at (o := ⟨some 89, _, _, _, _, _⟩) ?_)
                           go_must (refine wl_ixK hK rfl rfl rfl rfl stackTy.und stackTy.size (h := ?_); intro b89 k89 hat89))
                        | ((with_reducible refine wl_at (o := ⟨some 70, _, _, _, _, _⟩) ?_)
                           go_must (refine wl_loadP0 (Cell.cells (u.at_)) rfl rfl rfl (aggT (by decide)) (h := ?_)))
                        | ((with_reducible refine wl_at (o := ⟨some 79, _, _, _, _, _⟩) ?_)
                           go_must (refine wl_loadP0 (Cell.cells (u.at_)) rfl rfl rfl (aggT (by decide)) (h := ?_)))
                        | ((with_reducible refine wl_at (o := ⟨some 91, _, _, _, _, _⟩) ?_)
                           go_must (refine wl_loadP0 (Cell.cells (u.at_)) rfl rfl rfl (aggT (by decide)) (h := ?_)))
                        | ((with_reducible refine wl_at (o := ⟨_, .binOp .eql 39 _ _ _, _, _, _, _⟩) ?_)
                           go_must (refine wl_eqlC cellEq rfl rfl rfl rfl ?_))
                        | ((with_reducible refine wl_at (o := ⟨_, .binOp .neq 39 _ _ _, _, _, _, _⟩) ?_)
                           go_must (refine wl_neqC cellEq rfl rfl rfl rfl ?_))
                        | (go_at_call 29; go_must (refine (hK.quiet (k_heightY hK.own)).mono ?_; clear hK; rintro e w' ⟨rfl, hK⟩))
                        | (go_at_call 21; go_must (refine (hK.callsJ (by repeat (first | exact Ix.head | apply Ix.tail)) (fun S hS => k_liftY hS)).mono ?_; clear hK; rintro e w' ⟨rfl, hK⟩; simp only [List.set_cons_zero, List.set_cons_succ] at hK))
                        | (go_at_call 23; go_must (refine (hK.callsJ (by repeat (first | exact Ix.head | apply Ix.tail)) (fun S hS => k_dropY hS)).mono ?_; clear hK; rintro e w' ⟨rfl, hK⟩; simp only [List.set_cons_zero, List.set_cons_succ] at hK))
                        | (go_at_call 14; go_must (refine (hK.quiet (awake_calls hK.lent)).mono ?_; clear hK; rintro e w' ⟨rfl, hK⟩))
                        | ((with_reducible refine wp_region_textK (id := 13) hK (by kernel_rfl) (by kernel_rfl) ?_); clear hK; intro w' hK)
                        | go_big_skip
                        | go_big_skip
                        | ((with_reducible refine wl_at (o := ⟨_, .load _ _, _, _, _, _⟩) ?_)
                           first
                             | refine wl_loadK hK rfl rfl rfl (scalT (by decide)) (h := ?_)
                             | refine wl_loadSK hK rfl rfl rfl (aggT (by decide)) (h := ?_)
                             | refine wl_loadA0 rfl rfl rfl (scalT (by decide)) (h := ?_)
                             | refine wl_loadA rfl rfl rfl (scalT (by decide)) (h := ?_)
                             | refine wl_loadSA rfl rfl rfl (aggT (by decide)) (h := ?_))
                        | (with_reducible refine atEnd_mk (by kernel_rfl) ?_))
                      go_ret
                      exact ⟨rfl, hK.mod⟩
                    · have c1 : decide (room ≤ (n2 : Int)) = false := decide_eq_false (by rw [HROOM.out, hn2]; exact hr)
                      obtain ⟨a6, a7⟩ := a5 hr
                      obtain ⟨m2, hm2⟩ : ∃ v, m1.drop c.p 0 x = v := ⟨_, rfl⟩
                      have A6 := Lib.hid a6
                      have HM2 := Lib.hid hm2
                      rw [hm2] at a7
                      have hf2 := full_put hf.out HO.out hou.out hux hh hr
                      rw [← a7] at hf2
                      have HF2 := Lib.hid hf2
                      have kH4 : Hid (m2.height c.p x = (n2 : Int) + 1) := by
                        show _ = _
                        rw [height_open HO.out, a7]
                        show ((putF _ x _ x).length : Int) = _
                        unfold putF
                        rw [if_pos rfl, List.length_append, hn2]
                        rfl
                      have hlt2 : (m2.f u.at_).length < n1 := by
                        rw [a7, hn1]
                        show (putF _ x _ u.at_).length < _
                        unfold putF
                        rw [if_neg hux, if_pos rfl, List.length_dropLast]
                        have := List.length_pos_iff.2 hh
                        omega
                      have HLT := Lib.hid hlt2
                      have HN1 := Lib.hid hn1
                      clear hux hh hn1 hr a1 a2 a3 a4 a5 a6 a7 hn2 hm1 hV hm2 hf2 hlt2
                      go_wp2_with (first
                        | ((with_reducible refine wl_at (o := ⟨some 68, _, _, _, _, _⟩) ?_)
                           go_must (refine wl_ixK hK rfl rfl rfl rfl stackTy.und stackTy.size (h := ?_); intro b68 k68 hat68))
                        | ((with_reducible refine wl_at (o := ⟨some 77, _, _, _, _, _⟩) ?_)
                           go_must (refine wl_ixK hK rfl rfl rfl rfl stackTy.und stackTy.size (h := ?_); intro b77 k77 hat77))
                        | ((with_reducible refine wl_at (o := ⟨some 89, _, _, _, _, _⟩) ?_)
                           go_must (refine wl_ixK hK rfl rfl rfl rfl stackTy.und stackTy.size (h := ?_); intro b89 k89 hat89))
                        | ((with_reducible refine wl_at (o := ⟨some 70, _, _, _, _, _⟩) ?_)
                           go_must (refine wl_loadP0 (Cell.cells (u.at_)) rfl rfl rfl (aggT (by decide)) (h := ?_)))
                        | ((with_reducible refine wl_at (o := ⟨some 79, _, _, _, _, _⟩) ?_)
                           go_must (refine wl_loadP0 (Cell.cells (u.at_)) rfl rfl rfl (aggT (by decide)) (h := ?_)))
                        | ((with_reducible refine wl_at (o := ⟨some 91, _, _, _, _, _⟩) ?_)
                           go_must (refine wl_loadP0 (Cell.cells (u.at_)) rfl rfl rfl (aggT (by decide)) (h := ?_)))
                        | ((with_reducible refine wl_at (o := ⟨_, .binOp .eql 39 _ _ _, _, _, _, _⟩) ?_)
                           go_must (refine wl_eqlC cellEq rfl rfl rfl rfl ?_))
                        | ((with_reducible refine wl_at (o := ⟨_, .binOp .neq 39 _ _ _, _, _, _, _⟩) ?_)
                           go_must (refine wl_neqC cellEq rfl rfl rfl rfl ?_))
                        | (go_at_call 29; go_must (refine (hK.quiet (k_heightY hK.own)).mono ?_; clear hK; rintro e w' ⟨rfl, hK⟩))
                        | (go_at_call 21; go_must (refine (hK.callsJ (by repeat (first | exact Ix.head | apply Ix.tail)) (fun S hS => k_liftY hS)).mono ?_; clear hK; rintro e w' ⟨rfl, hK⟩; simp only [List.set_cons_zero, List.set_cons_succ] at hK))
                        | (go_at_call 23; go_must (refine (hK.callsJ (by repeat (first | exact Ix.head | apply Ix.tail)) (fun S hS => k_dropY hS)).mono ?_; clear hK; rintro e w' ⟨rfl, hK⟩; simp only [List.set_cons_zero, List.set_cons_succ] at hK))
                        | ((with_reducible refine wp_region_textK (id := 13) hK (by kernel_rfl) (by kernel_rfl) ?_); clear hK; intro w' hK)
                        | go_big_skip
                        | go_big_skip
                        | ((with_reducible refine wl_at (o := ⟨_, .load _ _, _, _, _, _⟩) ?_)
                           first
                             | refine wl_loadK hK rfl rfl rfl (scalT (by decide)) (h := ?_)
                             | refine wl_loadSK hK rfl rfl rfl (aggT (by decide)) (h := ?_)
                             | refine wl_loadA0 rfl rfl rfl (scalT (by decide)) (h := ?_)
                             | refine wl_loadA rfl rfl rfl (scalT (by decide)) (h := ?_)
                             | refine wl_loadSA rfl rfl rfl (aggT (by decide)) (h := ?_))
                        | (with_reducible refine atEnd_mk (by kernel_rfl) ?_))
                      go_roundg (m2.f u.at_).length
                      case measure => have := HLT.out; have := HN1.out; omega
                      case rel => exact ⟨m2, rfl, rfl, HF2, hK⟩
            · obtain rfl : j = ta.l.length := by omega
              obtain ⟨n2, hn2⟩ : ∃ n, n = (m.f x).length := ⟨_, rfl⟩
              have kH2 : Hid (m.height c.p x = (n2 : Int)) := by show _ = _; rw [height_open HO.out, hn2]
              have c1 : decide ((n2 : Int) ≤ room) = true := decide_eq_true (by rw [HROOM.out, hn2]; exact hf.out.room)
              clear hn2
              go_wp2_with (first
                | (go_at_call 29; go_must (refine (hK.quiet (k_heightY hK.own)).mono ?_; clear hK; rintro e w' ⟨rfl, hK⟩))
                | (go_at_call 14; go_must (refine (hK.quiet (awake_calls hK.lent)).mono ?_; clear hK; rintro e w' ⟨rfl, hK⟩))
                | go_big_skip
                | go_big_skip
                | ((with_reducible refine wl_at (o := ⟨_, .load _ _, _, _, _, _⟩) ?_)
                   first
                     | refine wl_loadK hK rfl rfl rfl (scalT (by decide)) (h := ?_)
                     | refine wl_loadSK hK rfl rfl rfl (aggT (by decide)) (h := ?_)
                     | refine wl_loadA0 rfl rfl rfl (scalT (by decide)) (h := ?_)
                     | refine wl_loadA rfl rfl rfl (scalT (by decide)) (h := ?_)
                     | refine wl_loadSA rfl rfl rfl (aggT (by decide)) (h := ?_))
                | (with_reducible refine atEnd_mk (by kernel_rfl) ?_))
              go_ret
              exact ⟨rfl, hK.mod⟩
end Go.Proofs.YtcklkojggpfbnaaDoor
