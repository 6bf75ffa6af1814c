/- StacksPlays: do both tell alike? -/
import Derived.Test.YtcklkojggpfbnaaDoorR8dQ
import Derived.Test.YtcklkojggpfbnaaDoorR8fQ
import Derived.Test.YtcklkojggpfbnaaDoorBn3Q
import Derived.Test.YtcklkojggpfbnaaDoorKpQ
set_option linter.all false
namespace Go.Proofs.YtcklkojggpfbnaaDoor
open Go Go.Sk Go.RowKit
set_option maxRecDepth 100000

open Classical in
theorem ref_told {c : ConfV} {v : RfV} {m : SM} {sv : Value} {w : World} (hv : RfOk c v m) (h1 : Has w (rTold sv (m.told c.p))) (h2 : Has w (rMany (v.cells.l.map rdRes))) (h3 : Has w (rOw 42 elStack v.cells.val v.cells.l)) :
    Calls Tryd.prog 17 #[sv, v.cells.val] w (Ret (.bool true) w) := by
  obtain ⟨t, rfl, ht, h4⟩ := Has.told h1
  have h5 : Has w (rStacks v.cells) := by
    unfold rStacks
    refine Has.two.2 ⟨h3.ord.has, Has.all.2 fun r hr => ?_⟩
    obtain ⟨x, hx, rfl⟩ := List.mem_map.1 hr
    exact rMany_has h2 (rdRes x) (List.mem_map_of_mem hx)
  have hl : t.l.length ≤ 1048576 := by
    have h6 := congrArg List.length ht
    rw [List.length_map] at h6
    have := told_len (m := m) hv.ok.may
    omega
  have := sameStacks_calls h4 h5 hl (fun x hx => told_short hv.ok x.p (by rw [← ht]; exact List.mem_map_of_mem hx))
  rw [decide_eq_true (show t.l.map StackV.p = v.cells.l.map StackV.p by rw [ht, hv.cells])] at this
  exact this
theorem rf_loadY {c : ConfV} {p : Nat} {m : SM} {i V : Int} {w : World} (h : Has w (rREF c p m)) (hV : Hid (m.load i = V) := by assumption) : Calls Tryd.prog 60 #[.pointer (some ⟨p, 0, none⟩), .int .i64 i] w (Ret (.int .i64 V) w) := by
  have := rf_load (i := i) h
  rw [hV.out] at this
  exact this

set_option maxHeartbeats 4000000 in
theorem same_calls {c : ConfV} {p pr : Nat} {m : SM} {w : World} (hc : Has w (rConf c)) (h1 : Has w (rSTK c.p p m)) (h2 : Has w (rREF c pr m)) :
    Calls Tryd.prog 38 #[.agg c.cells.toArray, .pointer (some ⟨p, 0, none⟩), .pointer (some ⟨pr, 0, none⟩)] w (Ret (.bool true) w) := by
  have hok := stk_ok h1
  obtain ⟨v, hp, hv, hg⟩ := Has.ref h2
  subst hp
  have hK : Know w w none' [] (rSTK c.p p m :: rREF c v.p m :: rConf c :: rRf c v) := Know.start (L := rSTK c.p p m :: rREF c v.p m :: rConf c :: rRf c v) w (by
    intro r hr
    rcases List.mem_cons.1 hr with rfl | hr
    · exact h1
    rcases List.mem_cons.1 hr with rfl | hr
    · exact h2
    rcases List.mem_cons.1 hr with rfl | hr
    · exact hc
    · exact hg r hr)
  have kS := Lib.hid (fun (W : World) (sv : Value) (h1 : Has W (rTold sv (m.told c.p))) (h2 : Has W (rMany (v.cells.l.map rdRes))) (h3 : Has W (rOw 42 elStack v.cells.val v.cells.l)) => ref_told hv h1 h2 h3)
  obtain ⟨B, hB⟩ : ∃ B, m.bins c.p = B := ⟨_, rfl⟩
  have HB := Lib.hid hB
  have hBl2 : B.length ≤ 9223372036854775807 := by
    rw [← hB]; unfold SM.bins; rw [sortI_len]
    have := raw_len hok
    omega
  have hr8 : c.robots.l.length ≤ 8 := hok.may.robots8
  clear hB h1 h2 hg hv hc hok
  simp only [rRf] at hK
  go_enter Tryd.func38, Tryd.ntmps38
  go_wp2_with (first
    | ((with_reducible refine wl_at (o := ⟨some 3, .box _ _, _, _, _, _⟩) ?_)
       go_must (refine wl_boxK hK rfl rfl rfl rfl ?_; clear hK; intro w3 b3 hK))
    | (go_at_call 15; go_must (refine (kn_told (m := m) hK.lent).mono ?_; rintro e w' ⟨ad1, n1, k1, rfl, hn1, hT⟩; replace hK := hK.push1 hT; clear hT hn1))
    | (go_at_call 17; go_must (refine (hK.quiet (kS.out _ _ hK.own hK.lent hK.lent)).mono ?_; clear hK; rintro e w' ⟨rfl, hK⟩))
    | (go_at_call 32; go_must (refine (k_bins (m := m) hK.lent).mono ?_; rintro e w' ⟨ad2, n2, cap2, rfl, hT⟩; replace hK := hK.push1 hT; rw [HB.out] at hK; clear hT))
    | (go_at_call 59; go_must (refine (rf_bins (m := m) hK.lent).mono ?_; rintro e w' ⟨ad3, n3, cap3, rfl, hT⟩; replace hK := hK.push1 hT; rw [HB.out] at hK; clear hT))
    | (go_at_call 34; go_must (refine (hK.quiet (same_ints (l := B) (l' := B) (decide_eq_true rfl) hK.own.ord hK.own.ord hBl2)).mono ?_; clear hK; rintro e w' ⟨rfl, hK⟩))
    | ((with_reducible refine wp_region_stableK (id := 1) hK [5] [rBlk v.p (rfCells c v) 84] (by kernel_rfl) (by kernel_rfl) (by simp) (by kernel_rfl) ?_); clear hK; intro w' hK)
    | (with_reducible refine wpC_of ?_)
    | (with_reducible refine atEndC (hK.cls (by simp)) ?_)
    | ((with_reducible refine wpC_end' ?_); refine wpC_nil ⟨by kernel_rfl, stays_loadK rfl rfl rfl rfl (scalT (by decide)) rfl (rest := stays_nil), ?_⟩)
    | go_big_skip
    | go_big_skip
    | ((with_reducible refine wl_at (o := ⟨_, .load _ _, _, _, _, _⟩) ?_)
       first
         | refine wl_loadK hK rfl rfl rfl (scalT (by decide)) (h := ?_)
         | refine wl_loadSK hK rfl rfl rfl (aggT (by decide)) (h := ?_)
         | refine wl_loadA0 rfl rfl rfl (scalT (by decide)) (h := ?_)
         | refine wl_loadA rfl rfl rfl (scalT (by decide)) (h := ?_)
         | refine wl_loadSA rfl rfl rfl (aggT (by decide)) (h := ?_))
    | (with_reducible refine atEnd_mk (by kernel_rfl) ?_))
  go_loopg [7] (c.robots.l.length + 2) (fun k i wr => ∃ z : Int, i = .int .i64 z ∧ k = (c.robots.l.length + 1 - z).toNat ∧ -1 ≤ z ∧ z ≤ c.robots.l.length + 1 ∧
    Know w wr none' [rBlk b3 c.cells 26] (rSTK c.p p m :: rREF c v.p m :: rConf c :: rRf c v))
  case atStart => exact ⟨-1, rfl, by omega, by omega, by omega, hK.sub (.cons _ (.cons _ (.cons _ (List.Sublist.refl _))))⟩
  case round =>
    clear hK
    obtain ⟨z, rfl, rfl, hz1, hz2, hK⟩ := hrel
    simp only [rRf] at hK
    by_cases hlt : z ≤ c.robots.l.length
    · have d1 : decide (z ≤ (c.robots.l.length : Int)) = true := decide_eq_true hlt
      obtain ⟨V, hV⟩ : ∃ V, m.load z = V := ⟨_, rfl⟩
      have HV := Lib.hid hV
      clear hV
      go_wp2_with (first
        | (go_at_call 27; go_must (refine (hK.quiet (k_loadY hK.lent)).mono ?_; clear hK; rintro e w' ⟨rfl, hK⟩))
        | (go_at_call 60; go_must (refine (hK.quiet (rf_loadY hK.lent)).mono ?_; clear hK; rintro e w' ⟨rfl, hK⟩))
        | go_big_skip
        | go_big_skip
        | ((with_reducible refine wl_at (o := ⟨_, .load _ _, _, _, _, _⟩) ?_)
           first
             | refine wl_loadK hK rfl rfl rfl (scalT (by decide)) (h := ?_)
             | refine wl_loadSK hK rfl rfl rfl (aggT (by decide)) (h := ?_)
             | refine wl_loadA0 rfl rfl rfl (scalT (by decide)) (h := ?_)
             | refine wl_loadA rfl rfl rfl (scalT (by decide)) (h := ?_)
             | refine wl_loadSA rfl rfl rfl (aggT (by decide)) (h := ?_))
        | (with_reducible refine atEnd_mk (by kernel_rfl) ?_))
      go_roundg (c.robots.l.length + 1 - (z + 1)).toNat
      case measure => omega
      case rel => exact ⟨z + 1, by go_num, rfl, by omega, by omega, hK⟩
    · have d1 : decide (z ≤ (c.robots.l.length : Int)) = false := decide_eq_false hlt
      go_wp2_with (first
        | go_big_skip
        | go_big_skip
        | ((with_reducible refine wl_at (o := ⟨_, .load _ _, _, _, _, _⟩) ?_)
           first
             | refine wl_loadK hK rfl rfl rfl (scalT (by decide)) (h := ?_)
             | refine wl_loadSK hK rfl rfl rfl (aggT (by decide)) (h := ?_)
             | refine wl_loadA0 rfl rfl rfl (scalT (by decide)) (h := ?_)
             | refine wl_loadA rfl rfl rfl (scalT (by decide)) (h := ?_)
             | refine wl_loadSA rfl rfl rfl (aggT (by decide)) (h := ?_))
        | (with_reducible refine atEnd_mk (by kernel_rfl) ?_))
      go_ret
      exact ⟨rfl, hK.mod⟩
end Go.Proofs.YtcklkojggpfbnaaDoor
