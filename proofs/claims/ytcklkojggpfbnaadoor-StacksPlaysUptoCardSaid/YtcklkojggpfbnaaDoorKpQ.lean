/- StacksKept. -/
import Derived.Test.YtcklkojggpfbnaaDoorBn2Q
set_option linter.all false
namespace Go.Proofs.YtcklkojggpfbnaaDoor
open Go Go.Sk Go.RowKit
set_option maxRecDepth 100000

/-! plain: all bins stay -/
abbrev nz : Int → Bool := fun b => b != 0
theorem cut_at {α : Type} {l : List α} {i : Nat} {x : α} (h : l[i]? = some x) : l = l.take i ++ x :: l.drop (i + 1) := by
  obtain ⟨h1, h2⟩ := List.getElem?_eq_some_iff.1 h
  rw [← h2, ← List.drop_eq_getElem_cons h1, List.take_append_drop]
theorem set_cut {α : Type} {l : List α} {i : Nat} {x y : α} (h : l[i]? = some x) : l.set i y = l.take i ++ y :: l.drop (i + 1) := by
  rw [List.set_eq_take_append_cons_drop, if_pos (List.getElem?_eq_some_iff.1 h).1]
theorem cnt_cells {l : List StackP} {q : Nat} {s t : StackP} (h : l[q]? = some s) (b : Int) : ((l.set q t).flatMap (·.bins)).count b + s.bins.count b = (l.flatMap (·.bins)).count b + t.bins.count b := by
  rw [set_cut h]
  conv => rhs; rw [cut_at h]
  simp only [List.flatMap_append, List.flatMap_cons, List.count_append]
  omega
theorem cnt_loads {l : List Int} {k : Nat} {u v : Int} (h : l[k]? = some u) (b : Int) : ((l.set k v).filter nz).count b + ([u].filter nz).count b = (l.filter nz).count b + ([v].filter nz).count b := by
  have e : ∀ x : Int, x :: l.drop (k + 1) = [x] ++ l.drop (k + 1) := fun _ => rfl
  rw [set_cut h]
  conv => rhs; rw [cut_at h]
  rw [e u, e v]
  simp only [List.filter_append, List.count_append]
  omega
theorem raw_lift {c : ConfP} {m : SM} {i : Int} {x : Cell} (ok : SMOk c m) (pos : ∀ y b, b ∈ m.f y → 1 ≤ b) (h : m.liftE c i x = 0) : ((m.lift c i x).raw c).Perm (m.raw c) := by
  obtain ⟨h1, h2, h3, h4, h5⟩ := lift_zero h
  rw [lift_at h]
  obtain ⟨⟨q, hq⟩⟩ : Nonempty (∃ q : Nat, (m.told c)[q]? = some ⟨x, m.f x⟩) := ⟨List.mem_iff_getElem?.1 (told_has ok.may h1)⟩
  obtain ⟨v, hv⟩ : ∃ v, v = (m.f x).getLastD 0 := ⟨_, rfl⟩
  have hv1 : 1 ≤ v := by rw [hv]; exact pos x _ (getLastD_mem h5)
  rw [← hv]
  have hk : m.ld[i.toNat]? = some 0 := by
    rw [List.getElem?_eq_getElem (by omega)]
    rw [List.getD_eq_getElem?_getD, List.getElem?_eq_getElem (by omega)] at h4
    exact congrArg some h4
  rw [List.perm_iff_count]
  intro b
  unfold SM.raw
  have e1 : (m.told c).set q ⟨x, (m.f x).dropLast⟩ = _ := told_set ok.may hq (m.f x).dropLast (m.ld.set i.toNat v)
  have c1 := cnt_cells (t := ⟨x, (m.f x).dropLast⟩) hq b
  have c2 := cnt_loads (v := v) hk b
  have e2 : (m.f x).count b = (m.f x).dropLast.count b + [v].count b := by
    conv => lhs; rw [← snoc_last h5]
    rw [List.count_append, hv]
  have e3 : [v].filter nz = [v] := by simp [nz]; omega
  have e4 : [(0 : Int)].filter nz = [] := by simp [nz]
  rw [e3, e4] at c2
  simp only [List.count_nil] at c2
  simp only at c1
  simp only [List.count_append]
  rw [← e1]
  show ((m.told c).set q ⟨x, (m.f x).dropLast⟩ |>.flatMap (·.bins)).count b + ((m.ld.set i.toNat v).filter nz).count b = _ + (m.ld.filter nz).count b
  omega
theorem drop_zero {c : ConfP} {m : SM} {i : Int} {x : Cell} (h : m.dropE c i x = 0) : openB c x = true ∧ 0 ≤ i ∧ i < m.ld.length ∧ m.ld.getD i.toNat 0 ≠ 0 := by
  unfold SM.dropE dropE at h
  by_cases hc : openB c x = true ∧ 0 ≤ i ∧ i < m.ld.length
  · rw [if_pos hc] at h
    split at h
    · omega
    · rename_i h1
      exact ⟨hc.1, hc.2.1, hc.2.2, h1⟩
  · rw [if_neg hc] at h; omega
theorem raw_drop {c : ConfP} {m : SM} {i : Int} {x : Cell} (ok : SMOk c m) (h : m.dropE c i x = 0) : ((m.drop c i x).raw c).Perm (m.raw c) := by
  obtain ⟨h1, h2, h3, h4⟩ := drop_zero h
  rw [drop_at h]
  obtain ⟨⟨q, hq⟩⟩ : Nonempty (∃ q : Nat, (m.told c)[q]? = some ⟨x, m.f x⟩) := ⟨List.mem_iff_getElem?.1 (told_has ok.may h1)⟩
  obtain ⟨v, hv⟩ : ∃ v, v = m.ld.getD i.toNat 0 := ⟨_, rfl⟩
  rw [← hv] at h4 ⊢
  have hk : m.ld[i.toNat]? = some v := by
    rw [List.getElem?_eq_getElem (by omega), hv, List.getD_eq_getElem?_getD, List.getElem?_eq_getElem (by omega)]
    rfl
  rw [List.perm_iff_count]
  intro b
  unfold SM.raw
  have e1 : (m.told c).set q ⟨x, m.f x ++ [v]⟩ = _ := told_set ok.may hq (m.f x ++ [v]) (m.ld.set i.toNat 0)
  have c1 := cnt_cells (t := ⟨x, m.f x ++ [v]⟩) hq b
  have c2 := cnt_loads (v := 0) hk b
  have e3 : [v].filter nz = [v] := by simp [nz]; omega
  have e4 : [(0 : Int)].filter nz = [] := by simp [nz]
  rw [e3, e4] at c2
  simp only [List.count_nil] at c2
  simp only [List.count_append] at c1
  simp only [List.count_append]
  rw [← e1]
  show ((m.told c).set q ⟨x, m.f x ++ [v]⟩ |>.flatMap (·.bins)).count b + ((m.ld.set i.toNat 0).filter nz).count b = _ + (m.ld.filter nz).count b
  omega
theorem sortI_perm {l l' : List Int} (h : l.Perm l') : sortI l = sortI l' := by
  have hp : ∀ a : List Int, (sortI a).Pairwise fun x y => x ≤ y := fun a =>
    (List.pairwise_mergeSort (le := fun x y => decide (x ≤ y)) (fun x y z h1 h2 => by
      have := of_decide_eq_true h1
      have := of_decide_eq_true h2
      exact decide_eq_true (by omega)) (fun x y => by
      rcases Int.le_total x y with h | h
      · simp [h]
      · simp [h]) a).imp fun h => of_decide_eq_true h
  exact List.Perm.eq_of_pairwise (le := fun x y => x ≤ y) (fun x y _ _ h1 h2 => by omega) (hp l) (hp l') (((List.mergeSort_perm l _).trans h).trans (List.mergeSort_perm l' _).symm)
/-- All bins of the start, each once, in order. -/
theorem start_bins {c : ConfP} (hm : MayP c) : ((SM.start c).bins c).Pairwise fun x y => x < y := by
  have hld : (SM.start c).ld.filter nz = [] := by
    show (List.replicate c.robots.length (0 : Int)).filter nz = []
    rw [List.filter_replicate]
    rfl
  have hnd : ((SM.start c).raw c).Nodup := by
    unfold SM.raw
    rw [hld, List.append_nil, List.nodup_iff_pairwise_ne, List.pairwise_flatMap]
    refine ⟨fun s hs => ?_, ?_⟩
    · have hb := (told_open s hs).2
      rw [hb]
      by_cases h0 : (SM.start c).f s.at_ = []
      · rw [h0]; exact List.Pairwise.nil
      · obtain ⟨t, ht, _, he⟩ := start_stack h0
        rw [he]
        exact List.nodup_iff_pairwise_ne.1 (start_nodup hm ht)
    · have h := told_nodup (m := SM.start c) hm
      rw [List.nodup_iff_pairwise_ne, List.pairwise_map] at h
      refine h.imp_of_mem fun {s t} hs ht hne x hx y hy hxy => ?_
      subst hxy
      rw [(told_open s hs).2] at hx
      rw [(told_open t ht).2] at hy
      exact hne (start_only hm hx hy)
  have h1 : (sortI ((SM.start c).raw c)).Nodup := (List.mergeSort_perm _ _).nodup_iff.2 hnd
  have h2 : (sortI ((SM.start c).raw c)).Pairwise fun x y => x ≤ y :=
    (List.pairwise_mergeSort (le := fun x y => decide (x ≤ y)) (fun x y z h1 h2 => by
      have := of_decide_eq_true h1
      have := of_decide_eq_true h2
      exact decide_eq_true (by omega)) (fun x y => by
      rcases Int.le_total x y with h | h
      · simp [h]
      · simp [h]) _).imp fun h => of_decide_eq_true h
  have h3 := List.nodup_iff_pairwise_ne.1 h1
  exact (h2.and h3).imp fun ⟨a, b⟩ => by omega
theorem pos_lift {c : ConfP} {m : SM} {i : Int} {x : Cell} (pos : ∀ y b, b ∈ m.f y → 1 ≤ b) : ∀ y b, b ∈ (m.lift c i x).f y → 1 ≤ b := by
  intro y b hb
  unfold SM.lift at hb
  split at hb
  · change b ∈ putF _ _ _ y at hb
    unfold putF at hb
    split at hb
    · exact pos x b (List.dropLast_subset _ hb)
    · exact pos y b hb
  · exact pos y b hb
/-- What is held: no bin, or a bin. -/
structure KeptInv (c : ConfP) (m : SM) : Prop where
  ok : SMOk c m
  pos : ∀ y b, b ∈ m.f y → 1 ≤ b
  lpos : ∀ b ∈ m.ld, 0 ≤ b
  bins : m.bins c = (SM.start c).bins c
theorem kept_start {c : ConfP} (hm : MayP c) : KeptInv c (SM.start c) := by
  refine ⟨start_ok hm, fun y b hb => (start_bin hm hb).1, fun b hb => ?_, rfl⟩
  change b ∈ List.replicate c.robots.length (0 : Int) at hb
  rw [List.eq_of_mem_replicate hb]
  omega
theorem mem_set' {l : List Int} {k : Nat} {v b : Int} (h : b ∈ l.set k v) : b = v ∨ b ∈ l := by
  rcases List.mem_or_eq_of_mem_set h with h | h
  · exact .inr h
  · exact .inl h
theorem kept_lift {c : ConfP} {m : SM} (h : KeptInv c m) (i : Int) (x : Cell) : KeptInv c (m.lift c i x) ∧ (m.liftE c i x = 0 → m.liftV c i x ≠ 0 ∧ (m.lift c i x).height c x = m.height c x - 1 ∧ (m.lift c i x).load i = m.liftV c i x) := by
  by_cases he : m.liftE c i x = 0
  · obtain ⟨h1, h2, h3, h4, h5⟩ := lift_zero he
    have hv : m.liftV c i x = (m.f x).getLastD 0 := by unfold SM.liftV; rw [if_pos he]
    have hv1 : 1 ≤ (m.f x).getLastD 0 := h.pos x _ (getLastD_mem h5)
    refine ⟨⟨lift_ok h.ok, pos_lift h.pos, fun b hb => ?_, ?_⟩, fun _ => ⟨by rw [hv]; omega, ?_, ?_⟩⟩
    · rw [lift_at he] at hb
      rcases mem_set' hb with hb | hb
      · rw [hb]; omega
      · exact h.lpos b hb
    · rw [← h.bins]
      exact sortI_perm (raw_lift h.ok h.pos he)
    · rw [height_open h1, height_open h1, lift_at he]
      show ((putF _ x _ x).length : Int) = _
      unfold putF
      rw [if_pos rfl, List.length_dropLast]
      have := List.length_pos_iff.2 h5
      omega
    · rw [hv, lift_at he]
      unfold SM.load
      simp only [List.length_set]
      rw [if_pos ⟨h2, h3⟩, List.getD_eq_getElem?_getD, List.getElem?_set, if_pos rfl, if_pos (by omega)]
      rfl
  · rw [(lift_not he).1]
    exact ⟨h, fun h0 => absurd h0 he⟩
theorem kept_drop {c : ConfP} {m : SM} (h : KeptInv c m) (i : Int) (x : Cell) : KeptInv c (m.drop c i x) ∧ (m.dropE c i x = 0 → (m.drop c i x).top c x = m.load i ∧ m.load i ≠ 0 ∧ (m.drop c i x).load i = 0) := by
  by_cases he : m.dropE c i x = 0
  · obtain ⟨h1, h2, h3, h4⟩ := drop_zero he
    have hl : m.load i = m.ld.getD i.toNat 0 := by unfold SM.load; rw [if_pos ⟨h2, h3⟩]
    have hmem : m.ld.getD i.toNat 0 ∈ m.ld := by
      rw [List.getD_eq_getElem?_getD, List.getElem?_eq_getElem (by omega)]
      exact List.getElem_mem _
    have h0 := h.lpos _ hmem
    refine ⟨⟨drop_ok h.ok, fun y b hb => ?_, fun b hb => ?_, ?_⟩, fun _ => ⟨?_, by rw [hl]; exact h4, ?_⟩⟩
    · rw [drop_at he] at hb
      change b ∈ putF _ x _ y at hb
      unfold putF at hb
      split at hb
      · rcases List.mem_append.1 hb with hb | hb
        · exact h.pos x b hb
        · rw [List.mem_singleton] at hb
          omega
      · exact h.pos y b hb
    · rw [drop_at he] at hb
      rcases mem_set' hb with hb | hb
      · omega
      · exact h.lpos b hb
    · rw [← h.bins]
      exact sortI_perm (raw_drop h.ok he)
    · rw [hl, drop_at he]
      unfold SM.top
      rw [if_pos h1]
      show (putF _ x _ x).getLastD 0 = _
      unfold putF
      rw [if_pos rfl, List.getLastD_concat]
    · rw [drop_at he]
      unfold SM.load
      simp only [List.length_set]
      rw [if_pos ⟨h2, h3⟩, List.getD_eq_getElem?_getD, List.getElem?_set, if_pos rfl, if_pos (by omega)]
      rfl
  · rw [drop_not he]
    exact ⟨h, fun h0 => absurd h0 he⟩
theorem same_ints {w : World} {ad ad' : Option Addr} {n n' cap cap' : Nat} {l l' : List Int} {b : Bool} (hb : decide (l = l') = b) (h1 : Rd w elInt (.slice ad n cap) l) (h2 : Rd w elInt (.slice ad' n' cap') l') (hl : l.length ≤ 9223372036854775807) :
    Calls Tryd.prog 34 #[.slice ad n cap, .slice ad' n' cap'] w (Ret (.bool b) w) := by
  subst hb
  have e1 := h1.n
  have e2 := h2.n
  subst e1 e2
  exact sameInts_calls (a := ⟨ad, l, cap⟩) (b := ⟨ad', l', cap'⟩) h1 h2 hl

open Classical in
set_option maxHeartbeats 8000000 in
theorem kept_calls {c : ConfV} {sv : Value} {ops : List Op8} {w : World} (hc : Has w (rConf c)) (hst : Has w stepsR) (hu : Upto c) (hwf : ∀ p ∈ c.robots.l, PoseWf p) (hs1 : Rd w elOp8 sv ops) (hs2 : ops.length ≤ 1048576) {Q : Prop} (_ : Q) :
    Calls Tryd.prog 8 #[.agg c.cells.toArray, sv] w (Ret (.bool true) w) := by
  have hK : Know w w none' [] [rRd elOp8 sv ops, rConf c, stepsR] := Know.start (L := [rRd elOp8 sv ops, rConf c, stepsR]) w (by
    intro r hr
    simp only [List.mem_cons, List.not_mem_nil, or_false] at hr
    rcases hr with rfl | rfl | rfl
    · exact hs1.has
    · exact hc
    · exact hst)
  obtain ⟨sa, sc, rfl⟩ := hs1.vee
  clear hc hst hs1
  obtain ⟨m0, h0⟩ : ∃ m, SM.start c.p = m := ⟨_, rfl⟩
  have M0 := Lib.hid h0
  rcases may_ways c.p with ⟨hn, hm, hs⟩ | ⟨hy, hm, hs⟩ | ⟨hy, hm, hs, hsm⟩
  · have HN := Lib.hid hn
    have HM := Lib.hid hm
    have HS := Lib.hid hs
    clear hn hm hs h0
    go_enter Tryd.func8, Tryd.ntmps8
    go_wp2_with (first
      | ((with_reducible refine wl_at (o := ⟨some 2, .box _ _, _, _, _, _⟩) ?_)
         go_must (refine wl_boxK hK rfl rfl rfl rfl ?_; clear hK; intro w2 b2 hK))
      | (go_at_call 10; go_must (refine (dup_calls (c := c) hK.lent hu).mono ?_; rintro e w' ⟨d, rfl, hd, hT⟩; replace hK := hK.push1 hT; have HD := Lib.hid hd; clear hT hd))
      | (go_at_call 12; go_must (refine (hK.quiet (kn_small HS.out hu hK.lent)).mono ?_; clear hK; rintro e w' ⟨rfl, hK⟩))
      | (go_at_call 13; go_must (refine (hK.quiet (kn_may HM.out hu hK.lent)).mono ?_; clear hK; rintro e w' ⟨rfl, hK⟩))
      | (go_at_call 14; go_must (refine (hK.quiet (awake_calls hK.lent)).mono ?_; clear hK; rintro e w' ⟨rfl, hK⟩))
      | (go_at_call 11; go_must (refine (hK.quiet (kn_no HN.out HD.out hu hwf hK.own hK.lent)).mono ?_; clear hK; rintro e w' ⟨rfl, hK⟩))
      | go_big_skip
      | go_big_skip
      | ((with_reducible refine wl_at (o := ⟨_, .load _ _, _, _, _, _⟩) ?_)
         first
           | refine wl_loadK hK rfl rfl rfl (scalT (by decide)) (h := ?_)
           | refine wl_loadSK hK rfl rfl rfl (aggT (by decide)) (h := ?_)
           | refine wl_loadA0 rfl rfl rfl (scalT (by decide)) (h := ?_)
           | refine wl_loadA rfl rfl rfl (scalT (by decide)) (h := ?_)
           | refine wl_loadSA rfl rfl rfl (aggT (by decide)) (h := ?_))
      | (with_reducible refine atEnd_mk (by kernel_rfl) ?_))
    go_ret
    exact ⟨rfl, hK.mod⟩
  · have HY := Lib.hid hy
    have HM := Lib.hid hm
    have HS := Lib.hid hs
    clear hy hm hs h0
    go_enter Tryd.func8, Tryd.ntmps8
    go_wp2_with (first
      | ((with_reducible refine wl_at (o := ⟨some 2, .box _ _, _, _, _, _⟩) ?_)
         go_must (refine wl_boxK hK rfl rfl rfl rfl ?_; clear hK; intro w2 b2 hK))
      | (go_at_call 10; go_must (refine (dup_calls (c := c) hK.lent hu).mono ?_; rintro e w' ⟨d, rfl, hd, hT⟩; replace hK := hK.push1 hT; have HD := Lib.hid hd; clear hT hd))
      | (go_at_call 12; go_must (refine (hK.quiet (kn_small HS.out hu hK.lent)).mono ?_; clear hK; rintro e w' ⟨rfl, hK⟩))
      | (go_at_call 13; go_must (refine (hK.quiet (kn_may HM.out hu hK.lent)).mono ?_; clear hK; rintro e w' ⟨rfl, hK⟩))
      | (go_at_call 14; go_must (refine (hK.quiet (awake_calls hK.lent)).mono ?_; clear hK; rintro e w' ⟨rfl, hK⟩))
      | (go_at_call 11; go_must (refine (kn_yesX M0.out HY.out HD.out hu hwf hK.own hK.lent).mono ?_; rintro e w' ⟨p, rfl, hT⟩; replace hK := hK.push1 hT; clear hT))
      | go_big_skip
      | go_big_skip
      | ((with_reducible refine wl_at (o := ⟨_, .load _ _, _, _, _, _⟩) ?_)
         first
           | refine wl_loadK hK rfl rfl rfl (scalT (by decide)) (h := ?_)
           | refine wl_loadSK hK rfl rfl rfl (aggT (by decide)) (h := ?_)
           | refine wl_loadA0 rfl rfl rfl (scalT (by decide)) (h := ?_)
           | refine wl_loadA rfl rfl rfl (scalT (by decide)) (h := ?_)
           | refine wl_loadSA rfl rfl rfl (aggT (by decide)) (h := ?_))
      | (with_reducible refine atEnd_mk (by kernel_rfl) ?_))
    go_ret
    exact ⟨rfl, hK.mod⟩
  · have HY := Lib.hid hy
    have HM := Lib.hid hm
    have HS := Lib.hid hs
    have hki : Hid (KeptInv c.p m0) := by show KeptInv _ _; rw [← h0]; exact kept_start hy
    obtain ⟨B, hB⟩ : ∃ B, m0.bins c.p = B := ⟨_, rfl⟩
    have HB := Lib.hid hB
    have HKB := Lib.hid (show ∀ m, KeptInv c.p m → m.bins c.p = B from fun m h => by rw [h.bins, ← hB, h0])
    have HST := Lib.hid (show B.Pairwise fun x y => x < y by rw [← hB, ← h0]; exact start_bins hy)
    have hBl : B.length ≤ 270000 := by rw [← hB]; unfold SM.bins; rw [sortI_len]; exact raw_len hki.out.ok
    have hBl2 : B.length ≤ 9223372036854775807 := by omega
    clear hy hm hs h0 hsm hB
    go_enter Tryd.func8, Tryd.ntmps8
    go_wp2_with (first
      | ((with_reducible refine wl_at (o := ⟨some 2, .box _ _, _, _, _, _⟩) ?_)
         go_must (refine wl_boxK hK rfl rfl rfl rfl ?_; clear hK; intro w2 b2 hK))
      | (go_at_call 10; go_must (refine (dup_calls (c := c) hK.lent hu).mono ?_; rintro e w' ⟨d, rfl, hd, hT⟩; replace hK := hK.push1 hT; have HD := Lib.hid hd; clear hT hd))
      | (go_at_call 12; go_must (refine (hK.quiet (kn_small HS.out hu hK.lent)).mono ?_; clear hK; rintro e w' ⟨rfl, hK⟩))
      | (go_at_call 13; go_must (refine (hK.quiet (kn_may HM.out hu hK.lent)).mono ?_; clear hK; rintro e w' ⟨rfl, hK⟩))
      | (go_at_call 14; go_must (refine (hK.quiet (awake_calls hK.lent)).mono ?_; clear hK; rintro e w' ⟨rfl, hK⟩))
      | (go_at_call 11; go_must (refine (kn_yesX M0.out HY.out HD.out hu hwf hK.own hK.lent).mono ?_; rintro e w' ⟨p, rfl, hT⟩; replace hK := hK.push1 hT; clear hT))
      | (go_at_call 32; go_must (refine (k_bins (m := m0) hK.own).mono ?_; rintro e w' ⟨adb, nb, capb, rfl, hT⟩; replace hK := hK.push1 hT; rw [HB.out] at hK; clear hT))
      | go_big_skip
      | go_big_skip
      | ((with_reducible refine wl_at (o := ⟨_, .load _ _, _, _, _, _⟩) ?_)
         first
           | refine wl_loadK hK rfl rfl rfl (scalT (by decide)) (h := ?_)
           | refine wl_loadSK hK rfl rfl rfl (aggT (by decide)) (h := ?_)
           | refine wl_loadA0 rfl rfl rfl (scalT (by decide)) (h := ?_)
           | refine wl_loadA rfl rfl rfl (scalT (by decide)) (h := ?_)
           | refine wl_loadSA rfl rfl rfl (aggT (by decide)) (h := ?_))
      | (with_reducible refine atEnd_mk (by kernel_rfl) ?_))
    go_loopg [8, 9, 10, 11, 12, 13, 4] ops.length (fun k i _ _ _ _ _ r4 wr => ∃ (j : Nat) (m : SM), i = .int .i64 j ∧ k = ops.length - j ∧ j ≤ ops.length ∧ r4 = .bool false ∧ Hid (KeptInv c.p m) ∧
      Know w wr none' [rOw 3 elInt (.slice adb nb capb) B, rSTK c.p p m, rDup d, rBlk b2 c.cells 26] [rRd elOp8 (.slice sa ops.length sc) ops, rConf c, stepsR])
    case atStart => exact ⟨0, m0, rfl, by omega, Nat.zero_le _, rfl, hki, hK⟩
    case round =>
      clear hK hki HB M0
      obtain ⟨j, m, rfl, rfl, hj, rfl, hki, hK⟩ := hrel
      by_cases hlt : j < ops.length ∧ j < 80
      · obtain ⟨hlt, hlt2⟩ := hlt
        obtain ⟨o, ho⟩ : ∃ o, ops[j]? = some o := ⟨_, List.getElem?_eq_getElem hlt⟩
        have HO := Lib.hid ho
        obtain ⟨q, hq⟩ : ∃ q, o.kind % 4 = q := ⟨_, rfl⟩
        have kPl := Lib.hid (fun (W : World) => show Calls Tryd.prog 16 #[.int .i64 o.kind, .int .i64 4] W fun e w' => e = .returned (.int .i64 q) ∧ w' = W from
          (Place_calls o.kind 4 W (by omega) (by omega)).mono fun e w' h => ⟨by rw [h.1, hq], h.2.symm⟩)
        clear ho hq
        by_cases hq2 : q < 2
        · have d1 : decide (q < 2) = true := decide_eq_true hq2
          obtain ⟨g1, g2⟩ := kept_lift hki.out o.robot o.at_
          obtain ⟨h1, hh1⟩ : ∃ v, m.height c.p o.at_ = v := ⟨_, rfl⟩
          have hb1 : -1 ≤ h1 ∧ h1 ≤ 1024 := by
            rw [← hh1]
            unfold SM.height
            have := hki.out.ok.short o.at_
            split <;> omega
          obtain ⟨E, hE⟩ : ∃ v, m.liftE c.p o.robot o.at_ = v := ⟨_, rfl⟩
          obtain ⟨V, hV⟩ : ∃ v, m.liftV c.p o.robot o.at_ = v := ⟨_, rfl⟩
          obtain ⟨m1, hm1⟩ : ∃ v, m.lift c.p o.robot o.at_ = v := ⟨_, rfl⟩
          rw [hm1] at g1 g2
          rw [hE, hV, hh1] at g2
          have HG := Lib.hid g1
          have HBm := Lib.hid (HKB.out m1 g1)
          have H1 := Lib.hid hh1
          have HE := Lib.hid hE
          have HV := Lib.hid hV
          have HM1 := Lib.hid hm1
          clear hq2 g1 hE hV hm1 hh1
          obtain ⟨hb1, hb2⟩ := hb1
          by_cases hE0 : E = 0
          · subst hE0
            obtain ⟨v1, v2, v3⟩ := g2 rfl
            have V1 : (V == 0) = false := beq_eq_false_iff_ne.2 v1
            have V1' : decide (V = 0) = false := decide_eq_false v1
            have H2 := Lib.hid v2
            have H3 := Lib.hid v3
            clear g2 v1 v2 v3
            go_wp2_with (first
              | ((with_reducible refine wl_at (o := ⟨some 54, _, _, _, _, _⟩) ?_)
                 go_must (refine wl_ixK hK rfl rfl rfl rfl op8Ty.und op8Ty.size (h := ?_); intro b54 k54 hat54))
              | ((with_reducible refine wl_at (o := ⟨some 9, .alloc _, _, _, _, _⟩) ?_)
                 go_must (refine wl_allocK (z := .agg ([.int .i64 0, .int .i64 0, .int .i64 0, .int .i64 0]).toArray) (zs := [.int .i64 0, .int .i64 0, .int .i64 0, .int .i64 0]) hK rfl rfl (by kernel_rfl) rfl ?_; clear hK; intro w9 b9 hK))
              | ((with_reducible refine wl_at (o := ⟨none, .store 50 _ _, _, _, _, _⟩) ?_)
                 go_must (refine wl_storeWK (vs := Op8.cells o) hK rfl rfl rfl rfl (aggS (by decide)) (elOp8.one o) (h := ?_); clear hK; intro w' hK; simp only [List.set_cons_zero, List.set_cons_succ] at hK))
              | (go_at_call 16; go_must (refine (hK.quiet ((kPl.out _).mono (fun e w' h => ⟨h.1, by rw [h.2]; exact Mod.refl _ _⟩))).mono ?_; clear hK; rintro e w' ⟨rfl, hK⟩))
              | ((with_reducible refine wl_at (o := ⟨some 62, _, _, _, _, _⟩) ?_)
                 go_must (refine wl_loadS rfl rfl rfl (aggT (by decide)) rfl (hK.blk.at (ds := Cell.cells (o.at_)) (o := 2) (fun j v h => by rcases j with _ | _ | j <;> first | exact h | (simp [Cell.cells] at h))) ?_))
              | ((with_reducible refine wl_at (o := ⟨some 69, _, _, _, _, _⟩) ?_)
                 go_must (refine wl_loadS rfl rfl rfl (aggT (by decide)) rfl (hK.blk.at (ds := Cell.cells (o.at_)) (o := 2) (fun j v h => by rcases j with _ | _ | j <;> first | exact h | (simp [Cell.cells] at h))) ?_))
              | ((with_reducible refine wl_at (o := ⟨some 81, _, _, _, _, _⟩) ?_)
                 go_must (refine wl_loadS rfl rfl rfl (aggT (by decide)) rfl (hK.blk.at (ds := Cell.cells (o.at_)) (o := 2) (fun j v h => by rcases j with _ | _ | j <;> first | exact h | (simp [Cell.cells] at h))) ?_))
              | (go_at_call 29; go_must (refine (hK.quiet (k_heightY hK.own)).mono ?_; clear hK; rintro e w' ⟨rfl, hK⟩))
              | (go_at_call 21; go_must (refine (hK.callsJ (by repeat (first | exact Ix.head | apply Ix.tail)) (fun S hS => k_liftY hS)).mono ?_; clear hK; rintro e w' ⟨rfl, hK⟩; simp only [List.set_cons_zero, List.set_cons_succ] at hK))
              | (go_at_call 27; go_must (refine (hK.quiet (k_loadY hK.own)).mono ?_; clear hK; rintro e w' ⟨rfl, hK⟩))
              | (go_at_call 32; go_must (refine (k_bins (m := m1) hK.own).mono ?_; rintro e w' ⟨ad3, n3, cap3, rfl, hT⟩; replace hK := hK.push1 hT; rw [HBm.out] at hK; clear hT))
              | (go_at_call 34; go_must (refine (hK.quiet (same_ints (l := B) (l' := B) (decide_eq_true rfl) hK.own.ord hK.own.ord hBl2)).mono ?_; clear hK; rintro e w' ⟨rfl, hK⟩))
              | go_big_skip
              | go_big_skip
              | ((with_reducible refine wl_at (o := ⟨_, .load _ _, _, _, _, _⟩) ?_)
                 first
                   | refine wl_loadK hK rfl rfl rfl (scalT (by decide)) (h := ?_)
                   | refine wl_loadSK hK rfl rfl rfl (aggT (by decide)) (h := ?_)
                   | refine wl_loadA0 rfl rfl rfl (scalT (by decide)) (h := ?_)
                   | refine wl_loadA rfl rfl rfl (scalT (by decide)) (h := ?_)
                   | refine wl_loadSA rfl rfl rfl (aggT (by decide)) (h := ?_))
              | (with_reducible refine atEnd_mk (by kernel_rfl) ?_))
            go_roundg (ops.length - (j + 1))
            case measure => omega
            case rel => exact ⟨j + 1, m1, by go_num, rfl, by omega, rfl, HG, hK.sub (.cons _ (.cons _ (List.Sublist.refl _)))⟩
          · have E1 : (E == 0) = false := beq_eq_false_iff_ne.2 hE0
            have E1' : decide (E = 0) = false := decide_eq_false hE0
            clear g2 hE0
            go_wp2_with (first
              | ((with_reducible refine wl_at (o := ⟨some 54, _, _, _, _, _⟩) ?_)
                 go_must (refine wl_ixK hK rfl rfl rfl rfl op8Ty.und op8Ty.size (h := ?_); intro b54 k54 hat54))
              | ((with_reducible refine wl_at (o := ⟨some 9, .alloc _, _, _, _, _⟩) ?_)
                 go_must (refine wl_allocK (z := .agg ([.int .i64 0, .int .i64 0, .int .i64 0, .int .i64 0]).toArray) (zs := [.int .i64 0, .int .i64 0, .int .i64 0, .int .i64 0]) hK rfl rfl (by kernel_rfl) rfl ?_; clear hK; intro w9 b9 hK))
              | ((with_reducible refine wl_at (o := ⟨none, .store 50 _ _, _, _, _, _⟩) ?_)
                 go_must (refine wl_storeWK (vs := Op8.cells o) hK rfl rfl rfl rfl (aggS (by decide)) (elOp8.one o) (h := ?_); clear hK; intro w' hK; simp only [List.set_cons_zero, List.set_cons_succ] at hK))
              | (go_at_call 16; go_must (refine (hK.quiet ((kPl.out _).mono (fun e w' h => ⟨h.1, by rw [h.2]; exact Mod.refl _ _⟩))).mono ?_; clear hK; rintro e w' ⟨rfl, hK⟩))
              | ((with_reducible refine wl_at (o := ⟨some 62, _, _, _, _, _⟩) ?_)
                 go_must (refine wl_loadS rfl rfl rfl (aggT (by decide)) rfl (hK.blk.at (ds := Cell.cells (o.at_)) (o := 2) (fun j v h => by rcases j with _ | _ | j <;> first | exact h | (simp [Cell.cells] at h))) ?_))
              | ((with_reducible refine wl_at (o := ⟨some 69, _, _, _, _, _⟩) ?_)
                 go_must (refine wl_loadS rfl rfl rfl (aggT (by decide)) rfl (hK.blk.at (ds := Cell.cells (o.at_)) (o := 2) (fun j v h => by rcases j with _ | _ | j <;> first | exact h | (simp [Cell.cells] at h))) ?_))
              | (go_at_call 29; go_must (refine (hK.quiet (k_heightY hK.own)).mono ?_; clear hK; rintro e w' ⟨rfl, hK⟩))
              | (go_at_call 21; go_must (refine (hK.callsJ (by repeat (first | exact Ix.head | apply Ix.tail)) (fun S hS => k_liftY hS)).mono ?_; clear hK; rintro e w' ⟨rfl, hK⟩; simp only [List.set_cons_zero, List.set_cons_succ] at hK))
              | (go_at_call 32; go_must (refine (k_bins (m := m1) hK.own).mono ?_; rintro e w' ⟨ad3, n3, cap3, rfl, hT⟩; replace hK := hK.push1 hT; rw [HBm.out] at hK; clear hT))
              | (go_at_call 34; go_must (refine (hK.quiet (same_ints (l := B) (l' := B) (decide_eq_true rfl) hK.own.ord hK.own.ord hBl2)).mono ?_; clear hK; rintro e w' ⟨rfl, hK⟩))
              | go_big_skip
              | go_big_skip
              | ((with_reducible refine wl_at (o := ⟨_, .load _ _, _, _, _, _⟩) ?_)
                 first
                   | refine wl_loadK hK rfl rfl rfl (scalT (by decide)) (h := ?_)
                   | refine wl_loadSK hK rfl rfl rfl (aggT (by decide)) (h := ?_)
                   | refine wl_loadA0 rfl rfl rfl (scalT (by decide)) (h := ?_)
                   | refine wl_loadA rfl rfl rfl (scalT (by decide)) (h := ?_)
                   | refine wl_loadSA rfl rfl rfl (aggT (by decide)) (h := ?_))
              | (with_reducible refine atEnd_mk (by kernel_rfl) ?_))
            go_roundg (ops.length - (j + 1))
            case measure => omega
            case rel => exact ⟨j + 1, m1, by go_num, rfl, by omega, rfl, HG, hK.sub (.cons _ (.cons _ (List.Sublist.refl _)))⟩
        · have d1 : decide (q < 2) = false := decide_eq_false hq2
          obtain ⟨g1, g2⟩ := kept_drop hki.out o.robot o.at_
          obtain ⟨E, hE⟩ : ∃ v, m.dropE c.p o.robot o.at_ = v := ⟨_, rfl⟩
          obtain ⟨V, hV⟩ : ∃ v, m.load o.robot = v := ⟨_, rfl⟩
          obtain ⟨m1, hm1⟩ : ∃ v, m.drop c.p o.robot o.at_ = v := ⟨_, rfl⟩
          rw [hm1] at g1 g2
          rw [hE, hV] at g2
          have HG := Lib.hid g1
          have HBm := Lib.hid (HKB.out m1 g1)
          have HE := Lib.hid hE
          have HV := Lib.hid hV
          have HM1 := Lib.hid hm1
          clear hq2 g1 hE hV hm1
          by_cases hE0 : E = 0
          · subst hE0
            obtain ⟨v1, v2, v3⟩ := g2 rfl
            have V1 : (V == 0) = false := beq_eq_false_iff_ne.2 v2
            have V1' : decide (V = 0) = false := decide_eq_false v2
            have H2 := Lib.hid v1
            have H3 := Lib.hid v3
            clear g2 v1 v2 v3
            go_wp2_with (first
              | ((with_reducible refine wl_at (o := ⟨some 54, _, _, _, _, _⟩) ?_)
                 go_must (refine wl_ixK hK rfl rfl rfl rfl op8Ty.und op8Ty.size (h := ?_); intro b54 k54 hat54))
              | ((with_reducible refine wl_at (o := ⟨some 9, .alloc _, _, _, _, _⟩) ?_)
                 go_must (refine wl_allocK (z := .agg ([.int .i64 0, .int .i64 0, .int .i64 0, .int .i64 0]).toArray) (zs := [.int .i64 0, .int .i64 0, .int .i64 0, .int .i64 0]) hK rfl rfl (by kernel_rfl) rfl ?_; clear hK; intro w9 b9 hK))
              | ((with_reducible refine wl_at (o := ⟨none, .store 50 _ _, _, _, _, _⟩) ?_)
                 go_must (refine wl_storeWK (vs := Op8.cells o) hK rfl rfl rfl rfl (aggS (by decide)) (elOp8.one o) (h := ?_); clear hK; intro w' hK; simp only [List.set_cons_zero, List.set_cons_succ] at hK))
              | (go_at_call 16; go_must (refine (hK.quiet ((kPl.out _).mono (fun e w' h => ⟨h.1, by rw [h.2]; exact Mod.refl _ _⟩))).mono ?_; clear hK; rintro e w' ⟨rfl, hK⟩))
              | ((with_reducible refine wl_at (o := ⟨some 104, _, _, _, _, _⟩) ?_)
                 go_must (refine wl_loadS rfl rfl rfl (aggT (by decide)) rfl (hK.blk.at (ds := Cell.cells (o.at_)) (o := 2) (fun j v h => by rcases j with _ | _ | j <;> first | exact h | (simp [Cell.cells] at h))) ?_))
              | ((with_reducible refine wl_at (o := ⟨some 110, _, _, _, _, _⟩) ?_)
                 go_must (refine wl_loadS rfl rfl rfl (aggT (by decide)) rfl (hK.blk.at (ds := Cell.cells (o.at_)) (o := 2) (fun j v h => by rcases j with _ | _ | j <;> first | exact h | (simp [Cell.cells] at h))) ?_))
              | (go_at_call 23; go_must (refine (hK.callsJ (by repeat (first | exact Ix.head | apply Ix.tail)) (fun S hS => k_dropY hS)).mono ?_; clear hK; rintro e w' ⟨rfl, hK⟩; simp only [List.set_cons_zero, List.set_cons_succ] at hK))
              | (go_at_call 27; go_must (refine (hK.quiet (k_loadY hK.own)).mono ?_; clear hK; rintro e w' ⟨rfl, hK⟩))
              | (go_at_call 33; go_must (refine (hK.quiet (k_topY hK.own)).mono ?_; clear hK; rintro e w' ⟨rfl, hK⟩))
              | (go_at_call 32; go_must (refine (k_bins (m := m1) hK.own).mono ?_; rintro e w' ⟨ad3, n3, cap3, rfl, hT⟩; replace hK := hK.push1 hT; rw [HBm.out] at hK; clear hT))
              | (go_at_call 34; go_must (refine (hK.quiet (same_ints (l := B) (l' := B) (decide_eq_true rfl) hK.own.ord hK.own.ord hBl2)).mono ?_; clear hK; rintro e w' ⟨rfl, hK⟩))
              | go_big_skip
              | go_big_skip
              | ((with_reducible refine wl_at (o := ⟨_, .load _ _, _, _, _, _⟩) ?_)
                 first
                   | refine wl_loadK hK rfl rfl rfl (scalT (by decide)) (h := ?_)
                   | refine wl_loadSK hK rfl rfl rfl (aggT (by decide)) (h := ?_)
                   | refine wl_loadA0 rfl rfl rfl (scalT (by decide)) (h := ?_)
                   | refine wl_loadA rfl rfl rfl (scalT (by decide)) (h := ?_)
                   | refine wl_loadSA rfl rfl rfl (aggT (by decide)) (h := ?_))
              | (with_reducible refine atEnd_mk (by kernel_rfl) ?_))
            go_roundg (ops.length - (j + 1))
            case measure => omega
            case rel => exact ⟨j + 1, m1, by go_num, rfl, by omega, rfl, HG, hK.sub (.cons _ (.cons _ (List.Sublist.refl _)))⟩
          · have E1 : (E == 0) = false := beq_eq_false_iff_ne.2 hE0
            have E1' : decide (E = 0) = false := decide_eq_false hE0
            clear g2 hE0
            go_wp2_with (first
              | ((with_reducible refine wl_at (o := ⟨some 54, _, _, _, _, _⟩) ?_)
                 go_must (refine wl_ixK hK rfl rfl rfl rfl op8Ty.und op8Ty.size (h := ?_); intro b54 k54 hat54))
              | ((with_reducible refine wl_at (o := ⟨some 9, .alloc _, _, _, _, _⟩) ?_)
                 go_must (refine wl_allocK (z := .agg ([.int .i64 0, .int .i64 0, .int .i64 0, .int .i64 0]).toArray) (zs := [.int .i64 0, .int .i64 0, .int .i64 0, .int .i64 0]) hK rfl rfl (by kernel_rfl) rfl ?_; clear hK; intro w9 b9 hK))
              | ((with_reducible refine wl_at (o := ⟨none, .store 50 _ _, _, _, _, _⟩) ?_)
                 go_must (refine wl_storeWK (vs := Op8.cells o) hK rfl rfl rfl rfl (aggS (by decide)) (elOp8.one o) (h := ?_); clear hK; intro w' hK; simp only [List.set_cons_zero, List.set_cons_succ] at hK))
              | (go_at_call 16; go_must (refine (hK.quiet ((kPl.out _).mono (fun e w' h => ⟨h.1, by rw [h.2]; exact Mod.refl _ _⟩))).mono ?_; clear hK; rintro e w' ⟨rfl, hK⟩))
              | ((with_reducible refine wl_at (o := ⟨some 104, _, _, _, _, _⟩) ?_)
                 go_must (refine wl_loadS rfl rfl rfl (aggT (by decide)) rfl (hK.blk.at (ds := Cell.cells (o.at_)) (o := 2) (fun j v h => by rcases j with _ | _ | j <;> first | exact h | (simp [Cell.cells] at h))) ?_))
              | (go_at_call 23; go_must (refine (hK.callsJ (by repeat (first | exact Ix.head | apply Ix.tail)) (fun S hS => k_dropY hS)).mono ?_; clear hK; rintro e w' ⟨rfl, hK⟩; simp only [List.set_cons_zero, List.set_cons_succ] at hK))
              | (go_at_call 27; go_must (refine (hK.quiet (k_loadY hK.own)).mono ?_; clear hK; rintro e w' ⟨rfl, hK⟩))
              | (go_at_call 32; go_must (refine (k_bins (m := m1) hK.own).mono ?_; rintro e w' ⟨ad3, n3, cap3, rfl, hT⟩; replace hK := hK.push1 hT; rw [HBm.out] at hK; clear hT))
              | (go_at_call 34; go_must (refine (hK.quiet (same_ints (l := B) (l' := B) (decide_eq_true rfl) hK.own.ord hK.own.ord hBl2)).mono ?_; clear hK; rintro e w' ⟨rfl, hK⟩))
              | go_big_skip
              | go_big_skip
              | ((with_reducible refine wl_at (o := ⟨_, .load _ _, _, _, _, _⟩) ?_)
                 first
                   | refine wl_loadK hK rfl rfl rfl (scalT (by decide)) (h := ?_)
                   | refine wl_loadSK hK rfl rfl rfl (aggT (by decide)) (h := ?_)
                   | refine wl_loadA0 rfl rfl rfl (scalT (by decide)) (h := ?_)
                   | refine wl_loadA rfl rfl rfl (scalT (by decide)) (h := ?_)
                   | refine wl_loadSA rfl rfl rfl (aggT (by decide)) (h := ?_))
              | (with_reducible refine atEnd_mk (by kernel_rfl) ?_))
            go_roundg (ops.length - (j + 1))
            case measure => omega
            case rel => exact ⟨j + 1, m1, by go_num, rfl, by omega, rfl, HG, hK.sub (.cons _ (.cons _ (List.Sublist.refl _)))⟩
      · have hend : ¬ j < ops.length ∨ (j < ops.length ∧ ¬ j < 80) := by omega
        have hnb : nb = B.length := (hK.own (r := rOw 3 elInt (.slice adb nb capb) B)).ord.n
        have HNB := Lib.hid hnb
        have hnb2 : nb ≤ 270000 := by omega
        clear hnb
        rcases hend with he | ⟨he, he2⟩
        all_goals
          go_wp2_with (first
            | go_big_skip
            | go_big_skip
            | ((with_reducible refine wl_at (o := ⟨_, .load _ _, _, _, _, _⟩) ?_)
               first
                 | refine wl_loadK hK rfl rfl rfl (scalT (by decide)) (h := ?_)
                 | refine wl_loadSK hK rfl rfl rfl (aggT (by decide)) (h := ?_)
                 | refine wl_loadA0 rfl rfl rfl (scalT (by decide)) (h := ?_)
                 | refine wl_loadA rfl rfl rfl (scalT (by decide)) (h := ?_)
                 | refine wl_loadSA rfl rfl rfl (aggT (by decide)) (h := ?_))
            | (with_reducible refine atEnd_mk (by kernel_rfl) ?_))
          go_loopg [14, 4] (nb + 1) (fun k i r4 wr => ∃ (q : Nat) (Z : List Res), i = .int .i64 q ∧ k = nb + 2 - q ∧ 1 ≤ q ∧ q ≤ nb + 1 ∧ r4 = .bool false ∧
            Know w wr none' [rOw 3 elInt (.slice adb nb capb) B, rSTK c.p p m, rDup d, rBlk b2 c.cells 26] [rRd elOp8 (.slice sa ops.length sc) ops, rConf c, stepsR])
          case atStart => exact ⟨1, [], rfl, by omega, by omega, by omega, rfl, hK⟩
          case round =>
            obtain ⟨n, _, rfl, rfl, hn1, hn2, rfl, hK⟩ := hrel
            by_cases hnl : n < nb
            · obtain ⟨q, hq⟩ : ∃ q, n = q + 1 := ⟨n - 1, by omega⟩
              have hB := HNB.out
              obtain ⟨x, hx⟩ : ∃ x, B[n]? = some x := ⟨_, List.getElem?_eq_getElem (by omega)⟩
              obtain ⟨y, hy⟩ : ∃ y, B[q]? = some y := ⟨_, List.getElem?_eq_getElem (by omega)⟩
              have hxy : y < x := by
                obtain ⟨a1, a2⟩ := List.getElem?_eq_some_iff.1 hx
                obtain ⟨a3, a4⟩ := List.getElem?_eq_some_iff.1 hy
                have := List.pairwise_iff_getElem.1 HST.out q n a3 a1 (by omega)
                rw [a2, a4] at this
                exact this
              have c1 : decide (x ≤ y) = false := decide_eq_false (by omega)
              have i1 : (n : Int) - 1 = (q : Int) := by omega
              have HX := Lib.hid hx
              have HY := Lib.hid hy
              have hqn : q < nb := by omega
              have hn27 : n ≤ 270000 := by omega
              clear hx hy hxy hq hB
              go_wp2_with (first
                | ((with_reducible refine wl_at (o := ⟨some 139, _, _, _, _, _⟩) ?_); go_must (refine wl_ixK (xs := B) (u := x) hK rfl rfl rfl rfl intTy.und intTy.size (hu := HX) (h := ?_); intro b139 k139 hat139))
                | ((with_reducible refine wl_at (o := ⟨some 144, _, _, _, _, _⟩) ?_); go_must (refine wl_ixK (xs := B) (u := y) hK rfl rfl rfl rfl intTy.und intTy.size (hu := HY) (h := ?_); intro b144 k144 hat144))
                | ((with_reducible refine wp_region_textK (id := 22) hK (by kernel_rfl) (by kernel_rfl) ?_); clear hK; intro w' hK)
                | go_big_skip
                | go_big_skip
                | ((with_reducible refine wl_at (o := ⟨_, .load _ _, _, _, _, _⟩) ?_)
                   first
                     | refine wl_loadK hK rfl rfl rfl (scalT (by decide)) (h := ?_)
                     | refine wl_loadSK hK rfl rfl rfl (aggT (by decide)) (h := ?_)
                     | refine wl_loadA0 rfl rfl rfl (scalT (by decide)) (h := ?_)
                     | refine wl_loadA rfl rfl rfl (scalT (by decide)) (h := ?_)
                     | refine wl_loadSA rfl rfl rfl (aggT (by decide)) (h := ?_))
                | (with_reducible refine atEnd_mk (by kernel_rfl) ?_))
              go_roundg (nb + 2 - (n + 1))
              case measure => omega
              case rel => exact ⟨n + 1, [], by go_num, rfl, by omega, by omega, rfl, hK⟩
            · go_wp2_with (first
                | (go_at_call 14; go_must (refine (hK.quiet (awake_calls hK.lent)).mono ?_; clear hK; rintro e w' ⟨rfl, hK⟩))
                | go_big_skip
                | go_big_skip
                | ((with_reducible refine wl_at (o := ⟨_, .load _ _, _, _, _, _⟩) ?_)
                   first
                     | refine wl_loadK hK rfl rfl rfl (scalT (by decide)) (h := ?_)
                     | refine wl_loadSK hK rfl rfl rfl (aggT (by decide)) (h := ?_)
                     | refine wl_loadA0 rfl rfl rfl (scalT (by decide)) (h := ?_)
                     | refine wl_loadA rfl rfl rfl (scalT (by decide)) (h := ?_)
                     | refine wl_loadSA rfl rfl rfl (aggT (by decide)) (h := ?_))
                | (with_reducible refine atEnd_mk (by kernel_rfl) ?_))
              go_ret
              exact ⟨rfl, hK.mod⟩
end Go.Proofs.YtcklkojggpfbnaaDoor
