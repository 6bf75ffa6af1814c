/- StacksTurned. -/
import Derived.Test.YtcklkojggpfbnaaDoorFlQ
import Derived.Test.YtcklkojggpfbnaaDoorComQ
set_option linter.all false
namespace Go.Proofs.YtcklkojggpfbnaaDoor
open Go Go.Sk Go.RowKit
set_option maxRecDepth 100000

theorem findIn_only {l : List StackP} {x : Cell} {bs : List Int} {b : Int} (h1 : ∀ s ∈ l, s.at_ ≠ x → b ∉ s.bins) (h2 : ∀ s ∈ l, s.at_ = x → s.bins = bs) (h3 : ∃ s ∈ l, s.at_ = x) (hb : b ∈ bs) :
    findIn l b = some (x, (bs.length : Int) - 1 - bs.idxOf b) := by
  induction l with
  | nil => obtain ⟨s, hs, _⟩ := h3; cases hs
  | cons s l ih =>
    show (if b ∈ s.bins then some (s.at_, (s.bins.length : Int) - 1 - s.bins.idxOf b) else findIn l b) = _
    by_cases hbs : b ∈ s.bins
    · have hx : s.at_ = x := Decidable.byContradiction fun h => h1 s (by simp) h hbs
      rw [if_pos hbs, hx, h2 s (by simp) hx]
    · rw [if_neg hbs]
      refine ih (fun s hs => h1 s (by simp [hs])) (fun s hs => h2 s (by simp [hs])) ?_
      obtain ⟨t, ht, hx⟩ := h3
      rcases List.mem_cons.1 ht with rfl | ht
      · exact absurd (by rw [h2 t (by simp) hx]; exact hb) hbs
      · exact ⟨t, ht, hx⟩
theorem told_has {c : ConfP} {m : SM} (hm : MayP c) {x : Cell} (ho : openB c x = true) : (⟨x, m.f x⟩ : StackP) ∈ m.told c := by
  have hi := (openB_iff.1 ho).1
  have h1 := numOf_bd hi
  have ha := area_eq hm
  obtain ⟨k, hk⟩ : ∃ k : Nat, x.y * c.w + x.x = (k : Int) := ⟨(x.y * c.w + x.x).toNat, by have : numOf c x = x.y * c.w + x.x := rfl; omega⟩
  have he : cellAt c.w k = x := cellAt_of (w := c.w) (h := c.h) hi hk
  unfold SM.told toldTo
  refine List.mem_filterMap.2 ⟨k, List.mem_range.2 (by have : numOf c x = x.y * c.w + x.x := rfl; omega), ?_⟩
  unfold tellOne
  rw [he, if_pos ho]
theorem find_only {c : ConfP} {m : SM} (hm : MayP c) {x : Cell} {b : Int} (ho : openB c x = true) (hb : b ∈ m.f x) (hn : ∀ y, y ≠ x → b ∉ m.f y) : m.find c b = some (x, ((m.f x).length : Int) - 1 - (m.f x).idxOf b) := by
  unfold SM.find
  refine findIn_only (fun s hs hx => ?_) (fun s hs hx => ?_) ⟨_, told_has hm ho, rfl⟩ hb
  · rw [(told_open s hs).2]
    exact hn _ hx
  · rw [(told_open s hs).2, hx]
/-- A bin stands in one stack. -/
theorem start_only {c : ConfP} (hm : MayP c) {y z : Cell} {b : Int} (hy : b ∈ (SM.start c).f y) (hz : b ∈ (SM.start c).f z) : y = z := by
  obtain ⟨s, hs, hsy, es⟩ := start_stack (List.ne_nil_of_mem hy)
  obtain ⟨t, ht, htz, et⟩ := start_stack (List.ne_nil_of_mem hz)
  rw [es] at hy
  rw [et] at hz
  have h1 := hm.bins1
  unfold allBins at h1
  rw [List.nodup_iff_pairwise_ne, List.pairwise_flatMap] at h1
  obtain ⟨i, hi⟩ := List.mem_iff_getElem?.1 hs
  obtain ⟨j, hj⟩ := List.mem_iff_getElem?.1 ht
  have h2 := List.pairwise_iff_getElem.1 h1.2
  obtain ⟨hil, hie⟩ := List.getElem?_eq_some_iff.1 hi
  obtain ⟨hjl, hje⟩ := List.getElem?_eq_some_iff.1 hj
  rcases Nat.lt_trichotomy i j with h | h | h
  · exact absurd rfl (h2 i j hil hjl h b (by rw [hie]; exact hy) b (by rw [hje]; exact hz))
  · subst h
    rw [hi] at hj
    injection hj with hj
    rw [← hsy, ← htz, hj]
  · exact absurd rfl (h2 j i hjl hil h b (by rw [hje]; exact hz) b (by rw [hie]; exact hy))
theorem start_at {c : ConfP} (hm : MayP c) {s : StackP} (hs : s ∈ c.stacks) : (SM.start c).f s.at_ = s.bins := by
  show binsIn c.stacks s.at_ = s.bins
  unfold binsIn
  cases hf : c.stacks.find? fun t => decide (t.at_ = s.at_) with
  | none =>
    have := List.find?_eq_none.1 hf s hs
    simp at this
  | some t =>
    have h1 : t.at_ = s.at_ := by simpa using List.find?_some hf
    have h2 := List.mem_of_find?_eq_some hf
    have h3 := hm.stacks1
    rw [List.nodup_iff_pairwise_ne, List.pairwise_map] at h3
    obtain ⟨i, hi⟩ := List.mem_iff_getElem?.1 hs
    obtain ⟨j, hj⟩ := List.mem_iff_getElem?.1 h2
    have h4 := List.pairwise_iff_getElem.1 h3
    obtain ⟨hil, hie⟩ := List.getElem?_eq_some_iff.1 hi
    obtain ⟨hjl, hje⟩ := List.getElem?_eq_some_iff.1 hj
    rcases Nat.lt_trichotomy i j with h | h | h
    · exact absurd (by rw [hie, hje, h1]) (h4 i j hil hjl h)
    · subst h
      rw [hi] at hj
      injection hj with hj
      rw [hj]; rfl
    · exact absurd (by rw [hie, hje, h1]) (h4 j i hjl hil h)
theorem start_nodup {c : ConfP} (hm : MayP c) {s : StackP} (hs : s ∈ c.stacks) : s.bins.Nodup := by
  have h1 := hm.bins1
  unfold allBins at h1
  rw [List.nodup_iff_pairwise_ne, List.pairwise_flatMap] at h1
  exact List.nodup_iff_pairwise_ne.2 (h1.1 s hs)

theorem stacked_open {c : ConfP} {x : Cell} (h : stackedB c x = true) : openB c x = true := by
  unfold stackedB at h
  simp only [Bool.and_eq_true] at h
  exact h.1.1.1
/-- k bins were brought. -/
def turnM (c : ConfP) (s : StackP) (x : Cell) (k : Nat) : SM := ⟨putF (putF (SM.start c).f s.at_ (s.bins.take (s.bins.length - k))) x (s.bins.reverse.take k), (SM.start c).ld⟩
theorem turn_zero {c : ConfP} (hm : MayP c) {s : StackP} (hs : s ∈ c.stacks) {x : Cell} (he : (SM.start c).f x = []) : turnM c s x 0 = SM.start c := by
  have : (turnM c s x 0).f = (SM.start c).f := by
    funext y
    show putF (putF _ _ _) x _ y = _
    unfold putF
    split
    · rename_i h; rw [h, he]; simp
    · split
      · rename_i h; rw [h, start_at hm hs]; simp
      · rfl
  show SM.mk (turnM c s x 0).f _ = _
  rw [this]
structure TurnOk (c : ConfP) (s : StackP) (x : Cell) : Prop where
  may : MayP c
  mem : s ∈ c.stacks
  st : stackedB c x = true
  ne : s.at_ ≠ x
  emp : (SM.start c).f x = []
theorem turn_ok {c : ConfP} {s : StackP} {x : Cell} (h : TurnOk c s x) {k : Nat} (hk : k ≤ s.bins.length) : SMOk c (turnM c s x k) ∧ ∀ y b, b ∈ (turnM c s x k).f y → 1 ≤ b := by
  have h8 := (nums_iff.1 h.may.nums).height
  have hst := h.may.stacked s h.mem
  refine ⟨⟨h.may, fun y => ?_, (start_ok h.may).robots, fun y hy => ?_⟩, fun y b hb => ?_⟩
  · show (putF (putF _ _ _) x _ y).length ≤ 1024
    unfold putF
    split
    · rw [List.length_take, List.length_reverse]; omega
    · split
      · rw [List.length_take]; omega
      · exact (start_ok h.may).short y
  · show putF (putF _ _ _) x _ y = []
    unfold putF
    rw [if_neg (fun e => by rw [e, stacked_open h.st] at hy; cases hy), if_neg (fun e => by rw [e, stacked_open hst.1] at hy; cases hy)]
    exact (start_ok h.may).closed y hy
  · change b ∈ putF (putF _ _ _) x _ y at hb
    unfold putF at hb
    have hbs : ∀ b ∈ s.bins, 1 ≤ b := fun b hb => (start_bin h.may (x := s.at_) (by rw [start_at h.may h.mem]; exact hb)).1
    split at hb
    · exact hbs b (List.mem_reverse.1 (List.mem_of_mem_take hb))
    · split at hb
      · exact hbs b (List.mem_of_mem_take hb)
      · exact (start_bin h.may hb).1
/-- One more is brought. -/
theorem turn_round {c : ConfP} {s : StackP} {x : Cell} (h : TurnOk c s x) (hr : c.robots ≠ []) {k : Nat} (hk : k < s.bins.length) :
    (turnM c s x k).liftE c 0 s.at_ = 0 ∧ s.bins[s.bins.length - 1 - k]? = some ((turnM c s x k).liftV c 0 s.at_) ∧ ((turnM c s x k).lift c 0 s.at_).dropE c 0 x = 0 ∧ ((turnM c s x k).lift c 0 s.at_).drop c 0 x = turnM c s x (k + 1) := by
  obtain ⟨ok, pos⟩ := turn_ok h (Nat.le_of_lt hk)
  have hst := h.may.stacked s h.mem
  have fs : (turnM c s x k).f s.at_ = s.bins.take (s.bins.length - k) := by
    show putF (putF _ _ _) x _ s.at_ = _
    unfold putF
    rw [if_neg h.ne, if_pos rfl]
  have fx : (turnM c s x k).f x = s.bins.reverse.take k := by
    show putF (putF _ _ _) x _ x = _
    unfold putF
    rw [if_pos rfl]
  have hl : (s.bins.take (s.bins.length - k)).length = s.bins.length - k := by rw [List.length_take]; omega
  have hne : (turnM c s x k).f s.at_ ≠ [] := by
    rw [fs]
    exact List.length_pos_iff.1 (by omega)
  obtain ⟨a1, a2, a3, a4, a5⟩ := move_one ok rfl pos hr (stacked_open h.st) (stacked_open hst.1) h.ne hne
  have hroom : ¬ (roomP c x ≤ ((turnM c s x k).f x).length) := by
    rw [stacked_room h.st, fx, List.length_take, List.length_reverse]
    omega
  obtain ⟨a6, a7⟩ := a5 hroom
  have hv : s.bins[s.bins.length - 1 - k]? = some ((turnM c s x k).liftV c 0 s.at_) := by
    rw [a2, fs, List.getLastD_eq_getLast?, List.getLast?_eq_getElem?, hl, List.getElem?_take, if_pos (by omega), show s.bins.length - k - 1 = s.bins.length - 1 - k by omega, List.getElem?_eq_getElem (by omega)]
    rfl
  refine ⟨a1, hv, a6, ?_⟩
  rw [a7]
  have e1 : s.bins.reverse.take k ++ [((turnM c s x k).f s.at_).getLastD 0] = s.bins.reverse.take (k + 1) := by
    rw [List.take_add_one, List.getElem?_reverse hk, hv, a2]
    rfl
  rw [fx, e1, fs]
  show SM.mk (putF (putF (turnM c s x k).f _ _) _ _) _ = SM.mk (putF (putF (SM.start c).f _ _) _ _) _
  congr 1
  funext y
  unfold putF
  split
  · rfl
  · rename_i hyx
    split
    · rw [List.dropLast_eq_take, hl, List.take_take, show min (s.bins.length - k - 1) (s.bins.length - k) = s.bins.length - (k + 1) by omega]
    · rename_i hys
      show putF (putF _ _ _) x _ y = _
      unfold putF
      rw [if_neg hyx, if_neg hys]
theorem turn_end {c : ConfP} {s : StackP} {x : Cell} (h : TurnOk c s x) : (turnM c s x s.bins.length).f x = s.bins.reverse ∧ (turnM c s x s.bins.length).f s.at_ = [] := by
  refine ⟨?_, ?_⟩
  · show putF (putF _ _ _) x _ x = _
    unfold putF
    rw [if_pos rfl, List.take_of_length_le (by simp)]
  · show putF (putF _ _ _) x _ s.at_ = _
    unfold putF
    rw [if_neg h.ne, if_pos rfl, Nat.sub_self, List.take_zero]
theorem nodup_idx {l : List Int} (h : l.Nodup) {i : Nat} {b : Int} (hb : l[i]? = some b) : l.idxOf b = i := by
  refine idx_first' (fun k hk hkb => ?_) hb
  obtain ⟨h1, h2⟩ := List.getElem?_eq_some_iff.1 hb
  obtain ⟨h3, h4⟩ := List.getElem?_eq_some_iff.1 hkb
  exact absurd (h4.trans h2.symm) (List.pairwise_iff_getElem.1 (List.nodup_iff_pairwise_ne.1 h) k i h3 h1 hk)
theorem turn_find {c : ConfP} {s : StackP} {x : Cell} (h : TurnOk c s x) {i : Nat} {b : Int} (hb : s.bins.reverse[i]? = some b) : (turnM c s x s.bins.length).find c b = some (x, (s.bins.length : Int) - 1 - i) := by
  obtain ⟨e1, e2⟩ := turn_end h
  have hbm : b ∈ s.bins := List.mem_reverse.1 (List.mem_of_getElem? hb)
  rw [find_only h.may (stacked_open h.st) (by rw [e1]; exact List.mem_of_getElem? hb) (fun y hy hby => ?_), e1, List.length_reverse, nodup_idx (by rw [List.nodup_iff_pairwise_ne, List.pairwise_reverse]; exact (List.nodup_iff_pairwise_ne.1 (start_nodup h.may h.mem)).imp Ne.symm) hb]
  by_cases hys : y = s.at_
  · rw [hys, e2] at hby; cases hby
  · have : (turnM c s x s.bins.length).f y = (SM.start c).f y := by
      show putF (putF _ _ _) x _ y = _
      unfold putF
      rw [if_neg hy, if_neg hys]
    rw [this] at hby
    exact hys (start_only h.may hby (by rw [start_at h.may h.mem]; exact hbm))
theorem k_AtL {c : ConfP} {p : Nat} {m : SM} {x : Cell} {l : List Int} {n : Nat} {w : World} (h : Has w (rSTK c p m)) (hl : m.f x = l) (hn : l.length = n) : Calls Tryd.prog 19 #[.pointer (some ⟨p, 0, none⟩), .agg x.cells.toArray] w fun e w' => ∃ ad cap, e = .returned (.slice ad n cap) ∧ Turn (rOw 3 elInt (.slice ad n cap) l) w w' none' := by
  subst hl
  refine (k_At h).mono ?_
  rintro e w' ⟨ad, k, cap, rfl, hm, S, h1, h2⟩
  have : k = (m.f x).length := Rd.n (Ow.rd (rOw_p.1 h1).1)
  subst this
  subst hn
  exact ⟨ad, cap, rfl, hm, S, h1, h2⟩
theorem k_findS {c : ConfP} {p : Nat} {m : SM} {b n : Int} {x : Cell} {w : World} (h : Has w (rSTK c p m)) (hr : m.find c b = some (x, n)) : Calls Tryd.prog 25 #[.pointer (some ⟨p, 0, none⟩), .int .i64 b] w (Ret (.tuple #[.agg x.cells.toArray, .int .i64 n, .bool true]) w) := by
  have := k_findX hr h
  exact this

open Classical in
set_option maxHeartbeats 8000000 in
theorem turned_calls {c : ConfV} {which : Int} {x : Cell} {w : World} (hc : Has w (rConf c)) (hst : Has w stepsR) (hu : Upto c) (hwf : ∀ p ∈ c.robots.l, PoseWf p) {Q R : Prop} (_ : Q) (_ : R) :
    Calls Tryd.prog 6 #[.agg c.cells.toArray, .int .i64 which, .agg x.cells.toArray] w (Ret (.bool true) w) := by
  have hK : Know w w none' [] [rRd elStack c.stacks.val c.stacks.l, rStacks c.stacks, rConf c, stepsR] := ((Know.start (L := [rConf c, stepsR]) w (by
    intro r hr
    simp only [List.mem_cons, List.not_mem_nil, or_false] at hr
    rcases hr with rfl | rfl
    · exact hc
    · exact hst)).conf (c := c) (by simp)).subL (by simp)
  clear hc hst
  obtain ⟨m0, h0⟩ : ∃ m, SM.start c.p = m := ⟨_, rfl⟩
  have M0 := Lib.hid h0
  rcases may_ways c.p with ⟨hn, hm, hs⟩ | ⟨hy, hm, hs⟩ | ⟨hy, hm, hs, hsm⟩
  · have HN := Lib.hid hn
    have HM := Lib.hid hm
    have HS := Lib.hid hs
    clear hn hm hs h0
    go_enter Tryd.func6, Tryd.ntmps6
    go_wp2_with (first
      | ((with_reducible refine wl_at (o := ⟨some 3, .box _ _, _, _, _, _⟩) ?_)
         go_must (refine wl_boxK hK rfl rfl rfl rfl ?_; clear hK; intro w3 b3 hK))
      | ((with_reducible refine wl_at (o := ⟨some 5, .box _ _, _, _, _, _⟩) ?_)
         go_must (refine wl_boxK hK rfl rfl rfl rfl ?_; clear hK; intro w5 b5 hK))
      | (go_at_call 10; go_must (refine (dup_calls (c := c) hK.lent hu).mono ?_; rintro e w' ⟨d, rfl, hd, hT⟩; replace hK := hK.push1 hT; have HD := Lib.hid hd; clear hT hd))
      | (go_at_call 12; go_must (refine (hK.quiet (kn_small HS.out hu hK.lent)).mono ?_; clear hK; rintro e w' ⟨rfl, hK⟩))
      | (go_at_call 13; go_must (refine (hK.quiet (kn_may HM.out hu hK.lent)).mono ?_; clear hK; rintro e w' ⟨rfl, hK⟩))
      | (go_at_call 14; go_must (refine (hK.quiet (awake_calls hK.lent)).mono ?_; clear hK; rintro e w' ⟨rfl, hK⟩))
      | (go_at_call 11; go_must (refine (hK.quiet (kn_no HN.out HD.out hu hwf hK.own hK.lent)).mono ?_; clear hK; rintro e w' ⟨rfl, hK⟩))
      | go_big_skip
      | go_big_skip
      | ((with_reducible refine wl_at (o := ⟨_, .load _ _, _, _, _, _⟩) ?_)
         first
           | refine wl_loadK hK rfl rfl rfl (scalT (by decide)) (h := ?_)
           | refine wl_loadSK hK rfl rfl rfl (aggT (by decide)) (h := ?_)
           | refine wl_loadA0 rfl rfl rfl (scalT (by decide)) (h := ?_)
           | refine wl_loadA rfl rfl rfl (scalT (by decide)) (h := ?_)
           | refine wl_loadSA rfl rfl rfl (aggT (by decide)) (h := ?_))
      | (with_reducible refine atEnd_mk (by kernel_rfl) ?_))
    go_ret
    exact ⟨rfl, hK.mod⟩
  · have HY := Lib.hid hy
    have HM := Lib.hid hm
    have HS := Lib.hid hs
    clear hy hm hs h0
    go_enter Tryd.func6, Tryd.ntmps6
    go_wp2_with (first
      | ((with_reducible refine wl_at (o := ⟨some 3, .box _ _, _, _, _, _⟩) ?_)
         go_must (refine wl_boxK hK rfl rfl rfl rfl ?_; clear hK; intro w3 b3 hK))
      | ((with_reducible refine wl_at (o := ⟨some 5, .box _ _, _, _, _, _⟩) ?_)
         go_must (refine wl_boxK hK rfl rfl rfl rfl ?_; clear hK; intro w5 b5 hK))
      | (go_at_call 10; go_must (refine (dup_calls (c := c) hK.lent hu).mono ?_; rintro e w' ⟨d, rfl, hd, hT⟩; replace hK := hK.push1 hT; have HD := Lib.hid hd; clear hT hd))
      | (go_at_call 12; go_must (refine (hK.quiet (kn_small HS.out hu hK.lent)).mono ?_; clear hK; rintro e w' ⟨rfl, hK⟩))
      | (go_at_call 13; go_must (refine (hK.quiet (kn_may HM.out hu hK.lent)).mono ?_; clear hK; rintro e w' ⟨rfl, hK⟩))
      | (go_at_call 14; go_must (refine (hK.quiet (awake_calls hK.lent)).mono ?_; clear hK; rintro e w' ⟨rfl, hK⟩))
      | (go_at_call 11; go_must (refine (kn_yesX M0.out HY.out HD.out hu hwf hK.own hK.lent).mono ?_; rintro e w' ⟨p, rfl, hT⟩; replace hK := hK.push1 hT; clear hT))
      | go_big_skip
      | go_big_skip
      | ((with_reducible refine wl_at (o := ⟨_, .load _ _, _, _, _, _⟩) ?_)
         first
           | refine wl_loadK hK rfl rfl rfl (scalT (by decide)) (h := ?_)
           | refine wl_loadSK hK rfl rfl rfl (aggT (by decide)) (h := ?_)
           | refine wl_loadA0 rfl rfl rfl (scalT (by decide)) (h := ?_)
           | refine wl_loadA rfl rfl rfl (scalT (by decide)) (h := ?_)
           | refine wl_loadSA rfl rfl rfl (aggT (by decide)) (h := ?_))
      | (with_reducible refine atEnd_mk (by kernel_rfl) ?_))
    go_ret
    exact ⟨rfl, hK.mod⟩
  · have HY := Lib.hid hy
    have HM := Lib.hid hm
    have HS := Lib.hid hs
    have hz := Lib.hid hu.sized
    obtain ⟨st, hstk⟩ : ∃ b, b = stackedB c.p x := ⟨_, rfl⟩
    have kS := Lib.hid (fun (W : World) (h : Has W (rConf c)) => show Calls Tryd.prog 28 #[.agg c.cells.toArray, .agg x.cells.toArray] W (Ret (.bool st) W) by rw [hstk]; exact ref_stacked h hz.out)
    have hub := hu.stacks
    by_cases hrl : c.robots.l.length = 0
    · have r1 : (((c.robots.l.length : Nat) : Int) == 0) = true := by simp [hrl]
      clear hy hm hs h0 hstk hub
      go_enter Tryd.func6, Tryd.ntmps6
      go_wp2_with (first
        | ((with_reducible refine wl_at (o := ⟨some 3, .box _ _, _, _, _, _⟩) ?_)
           go_must (refine wl_boxK hK rfl rfl rfl rfl ?_; clear hK; intro w3 b3 hK))
        | ((with_reducible refine wl_at (o := ⟨some 5, .box _ _, _, _, _, _⟩) ?_)
           go_must (refine wl_boxK hK rfl rfl rfl rfl ?_; clear hK; intro w5 b5 hK))
        | (go_at_call 10; go_must (refine (dup_calls (c := c) hK.lent hu).mono ?_; rintro e w' ⟨d, rfl, hd, hT⟩; replace hK := hK.push1 hT; have HD := Lib.hid hd; clear hT hd))
        | (go_at_call 12; go_must (refine (hK.quiet (kn_small HS.out hu hK.lent)).mono ?_; clear hK; rintro e w' ⟨rfl, hK⟩))
        | (go_at_call 13; go_must (refine (hK.quiet (kn_may HM.out hu hK.lent)).mono ?_; clear hK; rintro e w' ⟨rfl, hK⟩))
        | (go_at_call 14; go_must (refine (hK.quiet (awake_calls hK.lent)).mono ?_; clear hK; rintro e w' ⟨rfl, hK⟩))
        | (go_at_call 11; go_must (refine (kn_yesX M0.out HY.out HD.out hu hwf hK.own hK.lent).mono ?_; rintro e w' ⟨p, rfl, hT⟩; replace hK := hK.push1 hT; clear hT))
        | go_big_skip
        | go_big_skip
        | ((with_reducible refine wl_at (o := ⟨_, .load _ _, _, _, _, _⟩) ?_)
           first
             | refine wl_loadK hK rfl rfl rfl (scalT (by decide)) (h := ?_)
             | refine wl_loadSK hK rfl rfl rfl (aggT (by decide)) (h := ?_)
             | refine wl_loadA0 rfl rfl rfl (scalT (by decide)) (h := ?_)
             | refine wl_loadA rfl rfl rfl (scalT (by decide)) (h := ?_)
             | refine wl_loadSA rfl rfl rfl (aggT (by decide)) (h := ?_))
        | (with_reducible refine atEnd_mk (by kernel_rfl) ?_))
      go_ret
      exact ⟨rfl, hK.mod⟩
    · have r1 : (((c.robots.l.length : Nat) : Int) == 0) = false := by simp; simpa using hrl
      have r1' : (c.robots.l.length == 0) = false := by simp; simpa using hrl
      have r1'' : decide (c.robots.l = []) = false := by simp; simpa using hrl
      by_cases hsl : c.stacks.l.length = 0
      · have s1 : (((c.stacks.l.length : Nat) : Int) == 0) = true := by simp [hsl]
        clear hy hm hs h0 hstk hub
        go_enter Tryd.func6, Tryd.ntmps6
        go_wp2_with (first
          | ((with_reducible refine wl_at (o := ⟨some 3, .box _ _, _, _, _, _⟩) ?_)
             go_must (refine wl_boxK hK rfl rfl rfl rfl ?_; clear hK; intro w3 b3 hK))
          | ((with_reducible refine wl_at (o := ⟨some 5, .box _ _, _, _, _, _⟩) ?_)
             go_must (refine wl_boxK hK rfl rfl rfl rfl ?_; clear hK; intro w5 b5 hK))
          | (go_at_call 10; go_must (refine (dup_calls (c := c) hK.lent hu).mono ?_; rintro e w' ⟨d, rfl, hd, hT⟩; replace hK := hK.push1 hT; have HD := Lib.hid hd; clear hT hd))
          | (go_at_call 12; go_must (refine (hK.quiet (kn_small HS.out hu hK.lent)).mono ?_; clear hK; rintro e w' ⟨rfl, hK⟩))
          | (go_at_call 13; go_must (refine (hK.quiet (kn_may HM.out hu hK.lent)).mono ?_; clear hK; rintro e w' ⟨rfl, hK⟩))
          | (go_at_call 14; go_must (refine (hK.quiet (awake_calls hK.lent)).mono ?_; clear hK; rintro e w' ⟨rfl, hK⟩))
          | (go_at_call 11; go_must (refine (kn_yesX M0.out HY.out HD.out hu hwf hK.own hK.lent).mono ?_; rintro e w' ⟨p, rfl, hT⟩; replace hK := hK.push1 hT; clear hT))
          | go_big_skip
          | go_big_skip
          | ((with_reducible refine wl_at (o := ⟨_, .load _ _, _, _, _, _⟩) ?_)
             first
               | refine wl_loadK hK rfl rfl rfl (scalT (by decide)) (h := ?_)
               | refine wl_loadSK hK rfl rfl rfl (aggT (by decide)) (h := ?_)
               | refine wl_loadA0 rfl rfl rfl (scalT (by decide)) (h := ?_)
               | refine wl_loadA rfl rfl rfl (scalT (by decide)) (h := ?_)
               | refine wl_loadSA rfl rfl rfl (aggT (by decide)) (h := ?_))
          | (with_reducible refine atEnd_mk (by kernel_rfl) ?_))
        go_ret
        exact ⟨rfl, hK.mod⟩
      · have s1 : (((c.stacks.l.length : Nat) : Int) == 0) = false := by simp; simpa using hsl
        have s1' : (c.stacks.l.length == 0) = false := by simp; simpa using hsl
        have s1'' : decide (c.stacks.l = []) = false := by simp; simpa using hsl
        have hspos : (0 : Int) < (c.stacks.l.length : Nat) := by omega
        obtain ⟨k, hk⟩ : ∃ k : Nat, which % ((c.stacks.l.length : Nat) : Int) = (k : Int) := ⟨(which % ((c.stacks.l.length : Nat) : Int)).toNat, by have := Int.emod_nonneg which (show ((c.stacks.l.length : Nat) : Int) ≠ 0 by omega); omega⟩
        have hkl : k < c.stacks.l.length := by have := Int.emod_lt_of_pos which hspos; omega
        have kPl := Lib.hid (fun (W : World) => show Calls Tryd.prog 16 #[.int .i64 which, .int .i64 ((c.stacks.l.length : Nat) : Int)] W fun e w' => e = .returned (.int .i64 (k : Int)) ∧ w' = W from
          (Place_calls which _ W hspos (by omega)).mono fun e w' h => ⟨by rw [h.1, hk], h.2.symm⟩)
        obtain ⟨u, hu0⟩ : ∃ u, c.stacks.l[k]? = some u := ⟨_, List.getElem?_eq_getElem hkl⟩
        have HU := Lib.hid hu0
        have hum : u ∈ c.stacks.l := List.mem_of_getElem? hu0
        have hup : u.p ∈ c.p.stacks := List.mem_map_of_mem hum
        replace hK := hK.binsOf (s := c.stacks) (by simp) hum
        obtain ⟨h1v, hh1⟩ : ∃ v, m0.height c.p x = v := ⟨_, rfl⟩
        have kH := Lib.hid hh1
        clear hu0 hum hk hkl hub
        have done : st = false ∨ (st = true ∧ h1v ≠ 0) ∨ (st = true ∧ h1v = 0 ∧ x = u.at_) ∨ (TurnOk c.p u.p x ∧ st = true ∧ h1v = 0 ∧ x ≠ u.at_) := by
          cases hsb : stackedB c.p x with
          | false => exact .inl (by rw [hstk, hsb])
          | true =>
            by_cases hh : h1v = 0
            · by_cases hx : x = u.at_
              · exact .inr (.inr (.inl ⟨by rw [hstk, hsb], hh, hx⟩))
              · refine .inr (.inr (.inr ⟨⟨hy, hup, hsb, fun h => hx h.symm, ?_⟩, by rw [hstk, hsb], hh, hx⟩))
                rw [← hh1, height_open (stacked_open hsb), ← h0] at hh
                exact List.eq_nil_of_length_eq_zero (by omega)
            · exact .inr (.inl ⟨by rw [hstk, hsb], hh⟩)
        have hroN : c.p.robots ≠ [] := by
          intro h
          have : c.robots.l = [] := h
          rw [this] at hrl
          exact hrl rfl
        have HRN := Lib.hid hroN
        clear hy hm hs h0 hstk hrl hsl hup hh1 hroN
        rcases done with g | ⟨g, g1⟩ | ⟨g, g1, g2⟩ | ⟨hT, g, g1, g2⟩
        all_goals
          first | (have hTT := Lib.hid hT; clear hT) | skip
          subst g
          first | (have e1 : (h1v != 0) = true := bne_iff_ne.2 g1; have e1' : decide (h1v = 0) = false := decide_eq_false g1; clear g1) | subst g1 | skip
          first | (have e2 : decide (x = u.at_) = true := decide_eq_true g2; clear g2) | (have e2 : decide (x = u.at_) = false := decide_eq_false g2; clear g2) | skip
          go_enter Tryd.func6, Tryd.ntmps6
          go_wp2_with (first
            | ((with_reducible refine wp_region_stableK (id := 4) hK [6] [] (by kernel_rfl) (by kernel_rfl) (by simp) (by kernel_rfl) ?_); clear hK; intro w' hK)
            | (with_reducible refine wpC_of ?_)
            | (with_reducible refine atEndC (hK.cls (by simp)) ?_)
            | ((with_reducible refine wpC_end' ?_); refine wpC_nil ⟨by kernel_rfl, stays_call rfl rfl rfl (fun _ => by kernel_rfl) (fun W h => kPl.out W) stays_nil, ?_⟩)
            | ((with_reducible refine wl_at (o := ⟨some 3, .box _ _, _, _, _, _⟩) ?_)
               go_must (refine wl_boxK hK rfl rfl rfl rfl ?_; clear hK; intro w3 b3 hK))
            | ((with_reducible refine wl_at (o := ⟨some 5, .box _ _, _, _, _, _⟩) ?_)
               go_must (refine wl_boxK hK rfl rfl rfl rfl ?_; clear hK; intro w5 b5 hK))
            | (go_at_call 10; go_must (refine (dup_calls (c := c) hK.lent hu).mono ?_; rintro e w' ⟨d, rfl, hd, hT⟩; replace hK := hK.push1 hT; have HD := Lib.hid hd; clear hT hd))
            | (go_at_call 12; go_must (refine (hK.quiet (kn_small HS.out hu hK.lent)).mono ?_; clear hK; rintro e w' ⟨rfl, hK⟩))
            | (go_at_call 13; go_must (refine (hK.quiet (kn_may HM.out hu hK.lent)).mono ?_; clear hK; rintro e w' ⟨rfl, hK⟩))
            | (go_at_call 14; go_must (refine (hK.quiet (awake_calls hK.lent)).mono ?_; clear hK; rintro e w' ⟨rfl, hK⟩))
            | (go_at_call 11; go_must (refine (kn_yesX M0.out HY.out HD.out hu hwf hK.own hK.lent).mono ?_; rintro e w' ⟨p, rfl, hT⟩; replace hK := hK.push1 hT; clear hT))
            | (go_at_call 16; go_must (refine (hK.quiet ((kPl.out _).mono (fun e w' h => ⟨h.1, by rw [h.2]; exact Mod.refl _ _⟩))).mono ?_; clear hK; rintro e w' ⟨rfl, hK⟩))
            | ((with_reducible refine wl_at (o := ⟨some 62, _, _, _, _, _⟩) ?_)
               go_must (refine wl_ixK hK rfl rfl rfl rfl stackTy.und stackTy.size (h := ?_); intro b62 k62 hat62))
            | ((with_reducible refine wl_at (o := ⟨some 9, .alloc _, _, _, _, _⟩) ?_)
               go_must (refine wl_allocK (z := .agg (stackZ).toArray) (zs := stackZ) hK rfl rfl (by kernel_rfl) rfl ?_; clear hK; intro w9 b9 hK))
            | ((with_reducible refine wl_at (o := ⟨none, .store 42 _ _, _, _, _, _⟩) ?_)
               go_must (refine wl_storeWK (vs := StackV.cells u) hK rfl rfl rfl rfl (aggS (by decide)) (elStack.one u) (h := ?_); clear hK; intro w' hK; simp only [List.set_cons_zero, List.set_cons_succ] at hK))
            | (go_at_call 28; go_must (refine (hK.quiet (kS.out _ hK.lent)).mono ?_; clear hK; rintro e w' ⟨rfl, hK⟩))
            | (go_at_call 29; go_must (refine (hK.quiet (k_heightY hK.own)).mono ?_; clear hK; rintro e w' ⟨rfl, hK⟩))
            | ((with_reducible refine wl_at (o := ⟨some 77, _, _, _, _, _⟩) ?_)
               go_must (refine wl_loadS rfl rfl rfl (aggT (by decide)) rfl (hK.blk.at (ds := Cell.cells (u.at_)) (o := 0) (fun j v h => by rcases j with _ | _ | j <;> first | exact h | (simp [Cell.cells] at h))) ?_))
            | ((with_reducible refine wl_at (o := ⟨_, .binOp .eql 39 _ _ _, _, _, _, _⟩) ?_)
               go_must (refine wl_eqlC cellEq rfl rfl rfl rfl ?_))
            | ((with_reducible refine wl_at (o := ⟨_, .binOp .neq 39 _ _ _, _, _, _, _⟩) ?_)
               go_must (refine wl_neqC cellEq rfl rfl rfl rfl ?_))
            | go_big_skip
            | go_big_skip
            | ((with_reducible refine wl_at (o := ⟨_, .load _ _, _, _, _, _⟩) ?_)
               first
                 | refine wl_loadK hK rfl rfl rfl (scalT (by decide)) (h := ?_)
                 | refine wl_loadSK hK rfl rfl rfl (aggT (by decide)) (h := ?_)
                 | refine wl_loadA0 rfl rfl rfl (scalT (by decide)) (h := ?_)
                 | refine wl_loadA rfl rfl rfl (scalT (by decide)) (h := ?_)
                 | refine wl_loadSA rfl rfl rfl (aggT (by decide)) (h := ?_))
            | (with_reducible refine atEnd_mk (by kernel_rfl) ?_))
        · go_ret
          exact ⟨rfl, hK.mod⟩
        · go_ret
          exact ⟨rfl, hK.mod⟩
        · go_ret
          exact ⟨rfl, hK.mod⟩
        · have hul : u.bins.l.length ≤ 1048576 := hu.bins u (List.mem_of_getElem? HU.out)
          have hz0 : turnM c.p u.p x 0 = m0 := by rw [← M0.out]; exact turn_zero hTT.out.may hTT.out.mem hTT.out.emp
          have HZ0 := Lib.hid hz0
          have hnb : u.p.bins.length = u.bins.l.length := rfl
          have HNB := Lib.hid hnb
          clear hz0 hnb
          go_loopg [10, 11, 12, 6] u.bins.l.length (fun k i _ _ r6 wr => ∃ (j : Nat) (m : SM), i = .int .i64 j ∧ k = u.bins.l.length - j ∧ j ≤ u.bins.l.length ∧ r6 = .bool false ∧ Hid (turnM c.p u.p x j = m) ∧
            Know w wr none' [rBlk b9 (StackV.cells u) 42, rSTK c.p p m, rDup d, rBlk b5 x.cells 39, rBlk b3 c.cells 26] [rRd elInt u.bins.val u.bins.l, rRd elStack c.stacks.val c.stacks.l, rStacks c.stacks, rConf c, stepsR])
          case atStart => exact ⟨0, m0, rfl, by omega, Nat.zero_le _, rfl, HZ0, hK⟩
          case round =>
            obtain ⟨j, m, rfl, rfl, hj, rfl, hm, hK⟩ := hrel
            by_cases hlt : j < u.bins.l.length
            · obtain ⟨t1, t2, t3, t4⟩ := turn_round hTT.out HRN.out (k := j) hlt
              rw [hm.out] at t1 t2 t3 t4
              obtain ⟨V, hV⟩ : ∃ v, m.liftV c.p 0 u.at_ = v := ⟨_, rfl⟩
              obtain ⟨m1, hm1⟩ : ∃ v, m.lift c.p 0 u.at_ = v := ⟨_, rfl⟩
              change m.liftE c.p 0 u.at_ = 0 at t1
              change u.bins.l[u.bins.l.length - 1 - j]? = some (m.liftV c.p 0 u.at_) at t2
              change (m.lift c.p 0 u.at_).dropE c.p 0 x = 0 at t3
              change (m.lift c.p 0 u.at_).drop c.p 0 x = _ at t4
              rw [hV] at t2
              rw [hm1] at t3 t4
              obtain ⟨m2, hm2⟩ : ∃ v, turnM c.p u.p x (j + 1) = v := ⟨_, rfl⟩
              rw [hm2] at t4
              obtain ⟨q1, hq1⟩ : ∃ q, u.bins.l.length = q + 1 := ⟨u.bins.l.length - 1, by omega⟩
              obtain ⟨q2, hq2⟩ : ∃ q, q1 = q + j := ⟨q1 - j, by omega⟩
              have i1 : ((u.bins.l.length : Nat) : Int) - 1 = (q1 : Int) := by omega
              have i2 : (q1 : Int) - (j : Int) = (q2 : Int) := by omega
              have T1 := Lib.hid t1
              have T2 := Lib.hid (show u.bins.l[q2]? = some V by rw [← t2]; congr 1; omega)
              have T3 := Lib.hid t3
              have T4 := Lib.hid t4
              have HV := Lib.hid hV
              have HM1 := Lib.hid hm1
              have HM2 := Lib.hid hm2
              have hq1b : q1 ≤ 1048576 := by omega
              have hq2b : q2 ≤ 1048576 := by omega
              clear t1 t2 t3 t4 hV hm1 hm2 hq1 hq2 hm
              go_wp2_with (first
                | ((with_reducible refine wl_at (o := ⟨some 91, _, _, _, _, _⟩) ?_)
                   go_must (refine wl_loadS rfl rfl rfl (aggT (by decide)) rfl (hK.blk.at (ds := Cell.cells (u.at_)) (o := 0) (fun j v h => by rcases j with _ | _ | j <;> first | exact h | (simp [Cell.cells] at h))) ?_))
                | ((with_reducible refine wl_at (o := ⟨some 107, _, _, _, _, _⟩) ?_)
                   go_must (refine wl_ixK hK rfl rfl rfl rfl intTy.und intTy.size (h := ?_); intro b107 k107 hat107))
                | (go_at_call 21; go_must (refine (hK.callsJ (by repeat (first | exact Ix.head | apply Ix.tail)) (fun S hS => k_liftY hS)).mono ?_; clear hK; rintro e w' ⟨rfl, hK⟩; simp only [List.set_cons_zero, List.set_cons_succ] at hK))
                | (go_at_call 23; go_must (refine (hK.callsJ (by repeat (first | exact Ix.head | apply Ix.tail)) (fun S hS => k_dropY hS)).mono ?_; clear hK; rintro e w' ⟨rfl, hK⟩; simp only [List.set_cons_zero, List.set_cons_succ] at hK))
                | go_big_skip
                | go_big_skip
                | ((with_reducible refine wl_at (o := ⟨_, .load _ _, _, _, _, _⟩) ?_)
                   first
                     | refine wl_loadK hK rfl rfl rfl (scalT (by decide)) (h := ?_)
                     | refine wl_loadSK hK rfl rfl rfl (aggT (by decide)) (h := ?_)
                     | refine wl_loadA0 rfl rfl rfl (scalT (by decide)) (h := ?_)
                     | refine wl_loadA rfl rfl rfl (scalT (by decide)) (h := ?_)
                     | refine wl_loadSA rfl rfl rfl (aggT (by decide)) (h := ?_))
                | (with_reducible refine atEnd_mk (by kernel_rfl) ?_))
              go_roundg (u.bins.l.length - (j + 1))
              case measure => omega
              case rel => exact ⟨j + 1, m2, by go_num, rfl, by omega, rfl, HM2, hK⟩
            · obtain rfl : j = u.bins.l.length := by omega
              obtain ⟨E1, E2⟩ := turn_end hTT.out
              change (turnM c.p u.p x u.bins.l.length).f x = u.bins.l.reverse at E1
              change (turnM c.p u.p x u.bins.l.length).f u.at_ = [] at E2
              have E3 : ∀ (i : Nat) (b : Int), u.bins.l.reverse[i]? = some b → (turnM c.p u.p x u.bins.l.length).find c.p b = some (x, ((u.bins.l.length : Nat) : Int) - 1 - i) := fun i b h => turn_find hTT.out (i := i) h
              rw [hm.out] at E1 E2 E3
              have hst1 : openB c.p u.at_ = true := stacked_open (hTT.out.may.stacked u.p hTT.out.mem).1
              have kH2 : Hid (m.height c.p u.at_ = 0) := by show _ = _; rw [height_open hst1, E2]; rfl
              obtain ⟨r, hr⟩ : ∃ r, u.bins.l.reverse = r := ⟨_, rfl⟩
              have HR := Lib.hid hr
              rw [hr] at E1 E3
              have hrlen : Hid (r.length = u.bins.l.length) := by show _ = _; rw [← hr, List.length_reverse]
              have HE1 := Lib.hid E1
              have HE3 := Lib.hid E3
              clear E1 E2 E3 hr hst1
              go_wp2_with (first
                | (go_at_call 19; go_must (refine (k_AtL hK.own HE1.out hrlen.out).mono ?_; rintro e w' ⟨adl, capl, rfl, hT⟩; replace hK := hK.push1 hT; clear hT))
                | go_big_skip
                | ((with_reducible refine wl_at (o := ⟨_, .load _ _, _, _, _, _⟩) ?_)
                   first
                     | refine wl_loadK hK rfl rfl rfl (scalT (by decide)) (h := ?_)
                     | refine wl_loadSK hK rfl rfl rfl (aggT (by decide)) (h := ?_)
                     | refine wl_loadA0 rfl rfl rfl (scalT (by decide)) (h := ?_)
                     | refine wl_loadA rfl rfl rfl (scalT (by decide)) (h := ?_)
                     | refine wl_loadSA rfl rfl rfl (aggT (by decide)) (h := ?_))
                | (with_reducible refine atEnd_mk (by kernel_rfl) ?_))
              go_loopg [14, 15, 16, 17, 6] u.bins.l.length (fun k i _ _ _ r6 wr => ∃ (j : Nat) (M : List Res), i = .int .i64 j ∧ k = u.bins.l.length - j ∧ j ≤ u.bins.l.length ∧ r6 = .bool false ∧
                Know w wr none' [rOw 3 elInt (.slice adl u.bins.l.length capl) r, rBlk b9 (StackV.cells u) 42, rSTK c.p p m, rDup d, rBlk b5 x.cells 39, rBlk b3 c.cells 26] [rRd elInt u.bins.val u.bins.l, rRd elStack c.stacks.val c.stacks.l, rStacks c.stacks, rConf c, stepsR])
              case atStart => exact ⟨0, [], rfl, by omega, Nat.zero_le _, rfl, hK⟩
              case round =>
                obtain ⟨i, _, rfl, rfl, hi, rfl, hK⟩ := hrel
                by_cases hil : i < u.bins.l.length
                · obtain ⟨v, hv⟩ : ∃ v, r[i]? = some v := ⟨_, List.getElem?_eq_getElem (by rw [hrlen.out]; exact hil)⟩
                  obtain ⟨q1, hq1⟩ : ∃ q, u.bins.l.length = q + 1 := ⟨u.bins.l.length - 1, by omega⟩
                  obtain ⟨q2, hq2⟩ : ∃ q, q1 = q + i := ⟨q1 - i, by omega⟩
                  have i1 : ((u.bins.l.length : Nat) : Int) - 1 = (q1 : Int) := by omega
                  have i2 : (q1 : Int) - (i : Int) = (q2 : Int) := by omega
                  have HV := Lib.hid hv
                  have HV2 := Lib.hid (show u.bins.l[q2]? = some v by
                    rw [← hv, ← HR.out, List.getElem?_reverse hil]
                    congr 1; omega)
                  have HFi := Lib.hid (show m.find c.p v = some (x, (q2 : Int)) by rw [HE3.out i v hv]; congr 2; omega)
                  have hq1b : q1 ≤ 1048576 := by omega
                  have hq2b : q2 ≤ 1048576 := by omega
                  clear hv hq1 hq2
                  go_wp2_with (first
                    | ((with_reducible refine wl_at (o := ⟨some 128, _, _, _, _, _⟩) ?_); go_must (refine wl_ixK (xs := r) (u := v) hK rfl rfl rfl rfl intTy.und intTy.size (hu := HV) (h := ?_); intro b128 k128 hat128))
                    | ((with_reducible refine wl_at (o := ⟨some 138, _, _, _, _, _⟩) ?_); go_must (refine wl_ixK (xs := u.bins.l) (u := v) hK rfl rfl rfl rfl intTy.und intTy.size (hu := HV2) (h := ?_); intro b138 k138 hat138))
                    | ((with_reducible refine wl_at (o := ⟨some 145, _, _, _, _, _⟩) ?_); go_must (refine wl_ixK (xs := r) (u := v) hK rfl rfl rfl rfl intTy.und intTy.size (hu := HV) (h := ?_); intro b145 k145 hat145))
                    | (go_at_call 25; go_must (refine (hK.quiet (k_findS hK.own HFi.out)).mono ?_; clear hK; rintro e w' ⟨rfl, hK⟩))
                    | ((with_reducible refine wl_at (o := ⟨some 15, .alloc _, _, _, _, _⟩) ?_)
                       go_must (refine wl_allocK (z := .agg ([.int .i64 0, .int .i64 0]).toArray) (zs := [.int .i64 0, .int .i64 0]) hK rfl rfl (by kernel_rfl) rfl ?_; clear hK; intro w15 b15 hK))
                    | ((with_reducible refine wl_at (o := ⟨none, .store 39 _ _, _, _, _, _⟩) ?_)
                       go_must (refine wl_storeWK (vs := Cell.cells x) hK rfl rfl rfl rfl (aggS (by decide)) (elCell.one x) (h := ?_); clear hK; intro w' hK; simp only [List.set_cons_zero, List.set_cons_succ] at hK))
                    | ((with_reducible refine wl_at (o := ⟨_, .binOp .eql 39 _ _ _, _, _, _, _⟩) ?_)
                       go_must (refine wl_eqlC cellEq rfl rfl rfl rfl ?_))
                    | ((with_reducible refine wl_at (o := ⟨_, .binOp .neq 39 _ _ _, _, _, _, _⟩) ?_)
                       go_must (refine wl_neqC cellEq rfl rfl rfl rfl ?_))
                    | ((with_reducible refine wp_region_textK (id := 17) hK (by kernel_rfl) (by kernel_rfl) ?_); clear hK; intro w' hK)
                    | go_big_skip
                    | go_big_skip
                    | ((with_reducible refine wl_at (o := ⟨_, .load _ _, _, _, _, _⟩) ?_)
                       first
                         | refine wl_loadK hK rfl rfl rfl (scalT (by decide)) (h := ?_)
                         | refine wl_loadSK hK rfl rfl rfl (aggT (by decide)) (h := ?_)
                         | refine wl_loadA0 rfl rfl rfl (scalT (by decide)) (h := ?_)
                         | refine wl_loadA rfl rfl rfl (scalT (by decide)) (h := ?_)
                         | refine wl_loadSA rfl rfl rfl (aggT (by decide)) (h := ?_))
                    | (with_reducible refine atEnd_mk (by kernel_rfl) ?_))
                  go_roundg (u.bins.l.length - (i + 1))
                  case measure => omega
                  case rel => exact ⟨i + 1, [], by go_num, rfl, by omega, rfl, hK.sub (.cons _ (List.Sublist.refl _))⟩
                · obtain rfl : i = u.bins.l.length := by omega
                  go_wp2_with (first
                    | ((with_reducible refine wl_at (o := ⟨some 176, _, _, _, _, _⟩) ?_)
                       go_must (refine wl_loadS rfl rfl rfl (aggT (by decide)) rfl (hK.blk.at (ds := Cell.cells (u.at_)) (o := 0) (fun j v h => by rcases j with _ | _ | j <;> first | exact h | (simp [Cell.cells] at h))) ?_))
                    | (go_at_call 29; go_must (refine (hK.quiet (k_heightY hK.own)).mono ?_; clear hK; rintro e w' ⟨rfl, hK⟩))
                    | (go_at_call 14; go_must (refine (hK.quiet (awake_calls hK.lent)).mono ?_; clear hK; rintro e w' ⟨rfl, hK⟩))
                    | go_big_skip
                    | go_big_skip
                    | ((with_reducible refine wl_at (o := ⟨_, .load _ _, _, _, _, _⟩) ?_)
                       first
                         | refine wl_loadK hK rfl rfl rfl (scalT (by decide)) (h := ?_)
                         | refine wl_loadSK hK rfl rfl rfl (aggT (by decide)) (h := ?_)
                         | refine wl_loadA0 rfl rfl rfl (scalT (by decide)) (h := ?_)
                         | refine wl_loadA rfl rfl rfl (scalT (by decide)) (h := ?_)
                         | refine wl_loadSA rfl rfl rfl (aggT (by decide)) (h := ?_))
                    | (with_reducible refine atEnd_mk (by kernel_rfl) ?_))
                  go_ret
                  exact ⟨rfl, hK.mod⟩
end Go.Proofs.YtcklkojggpfbnaaDoor
