/- StacksOwn. -/
import Derived.Test.YtcklkojggpfbnaaDoorTnQ
import Derived.Test.YtcklkojggpfbnaaDoorStC
set_option linter.all false
namespace Go.Proofs.YtcklkojggpfbnaaDoor
open Go Go.Sk Go.RowKit
set_option maxRecDepth 100000

/-- A stack's bins, whatever they are by now. -/
abbrev anyRes (s : StackV) : Res := rSome 3 elInt s.bins.val s.bins.l.length
theorem bin_any (s : StackV) (w : World) (S : Nat → Prop) (h : (binRes s).p w S) : (anyRes s).p w S := rOw_some rfl h
theorem many_any {l : List StackV} (w : World) (S : Nat → Prop) (h : (rMany (l.map binRes)).p w S) : (rMany (l.map anyRes)).p w S :=
  rMany_p.2 (Sep.mapMono bin_any (rMany_p.1 h))
theorem set_same {α : Type} {l : List α} {i : Nat} {x : α} (h : l[i]? = some x) : l.set i x = l := by
  apply List.ext_getElem?
  intro k
  rw [List.getElem?_set]
  split
  · rename_i e
    subst e
    rw [h, if_pos (List.getElem?_eq_some_iff.1 h).1]
  · rfl
theorem k_toldK {c : ConfP} {p : Nat} {m : SM} {k : Nat} {w : World} (h : Has w (rSTK c p m)) (hk : 1 ≤ k) : Calls Tryd.prog 15 #[.pointer (some ⟨p, 0, none⟩), .int .i64 (k : Int)] w fun e w' =>
    ∃ t : Sv StackV, e = .returned t.val ∧ t.l.map StackV.p = (m.told c).take k ∧ Turns [rMany (t.l.map binRes), rOw 42 elStack t.val t.l] w w' none' := by
  refine (k_told (most := (k : Int)) h (by omega)).mono ?_
  rintro e w' ⟨ad, n, k', rfl, _, hm, S', k1, k2⟩
  obtain ⟨t, h1, h2, h3⟩ := rTold_p.1 k1
  exact ⟨t, by rw [h1], by rw [h2, Int.toNat_natCast], hm, S', h3, k2⟩

open Classical in
theorem same_sub {tb ta : Sv StackV} {h : Nat} {ads : Option Addr} {caps : Nat} {w : World} {l : List StackP} (h1 : Has w (rMany (tb.l.map binRes))) (h2 : Has w (rOw 42 elStack tb.val tb.l)) (h3 : Has w (rMany (ta.l.map binRes)))
    (hsub : Rd w elStack (.slice ads h caps) ((ta.l.drop 0).take h)) (ha : ta.l.map StackV.p = l) (hb : tb.l.map StackV.p = l.take h) (hh : h ≤ ta.l.length) (hl : l.length ≤ 1048576) (hs : ∀ x ∈ l, x.bins.length ≤ 1048576) :
    Calls Tryd.prog 17 #[tb.val, .slice ads h caps] w (Ret (.bool true) w) := by
  have e : (ta.l.take h).length = h := by rw [List.length_take]; omega
  rw [List.drop_zero] at hsub
  have hsv : (⟨ads, ta.l.take h, caps⟩ : Sv StackV).val = .slice ads h caps := by show Value.slice _ _ _ = _; rw [e]
  have h4 : Has w (rStacks ⟨ads, ta.l.take h, caps⟩) := by
    refine Has.two.2 ⟨by rw [hsv]; exact hsub.has, Has.all.2 fun r hr => ?_⟩
    obtain ⟨x, hx, rfl⟩ := List.mem_map.1 hr
    have := rMany_has h3 (binRes x) (List.mem_map_of_mem (List.mem_of_mem_take hx))
    unfold binRes at this
    exact this.ord.has
  have hlen := congrArg List.length hb
  rw [List.length_map, List.length_take] at hlen
  have := sameStacks_calls (a := tb) (b := ⟨ads, ta.l.take h, caps⟩) (stacks_has h1 h2) h4 (by omega) (fun x hx => hs x.p (by
    have : x.p ∈ tb.l.map StackV.p := List.mem_map_of_mem hx
    rw [hb] at this
    exact List.mem_of_mem_take this))
  rw [hsv] at this
  have hd : decide (tb.l.map StackV.p = (ta.l.take h).map StackV.p) = true := decide_eq_true (by rw [hb, ← ha, List.map_take])
  rw [hd] at this
  exact this
theorem k_copy {s : Sv StackV} {w : World} {l : List StackP} (h1 : Has w (rMany (s.l.map binRes))) (h2 : Has w (rOw 42 elStack s.val s.l)) (ha : s.l.map StackV.p = l) (hl : l.length ≤ 1048576) (hs : ∀ x ∈ l, x.bins.length ≤ 1048576) :
    Calls Tryd.prog 18 #[s.val] w fun e w' => ∃ ad n k, e = .returned (.slice ad n k) ∧ Turn (rTold (.slice ad n k) l) w w' none' := by
  subst ha
  refine (copyStacks_calls (stacks_has h1 h2) (by simpa using hl) fun x hx => hs x.p (List.mem_map_of_mem hx)).mono ?_
  rintro e w' ⟨t, rfl, ht, hm, S', k1, k2⟩
  exact ⟨_, _, _, rfl, hm, S', rTold_p.2 ⟨t, rfl, ht, k1⟩, k2⟩
theorem k_AtAny {c : ConfP} {p : Nat} {m : SM} {x : Cell} {w : World} (h : Has w (rSTK c p m)) : Calls Tryd.prog 19 #[.pointer (some ⟨p, 0, none⟩), .agg x.cells.toArray] w fun e w' => ∃ ad n cap, e = .returned (.slice ad n cap) ∧ n ≤ 1024 ∧ Turn (rSome 3 elInt (.slice ad n cap) n) w w' none' := by
  have hok := stk_ok h
  refine (k_At h).mono ?_
  rintro e w' ⟨ad, k, cap, rfl, hm, S, h1, h2⟩
  have : k = (m.f x).length := Rd.n (Ow.rd (rOw_p.1 h1).1)
  exact ⟨ad, k, cap, rfl, by rw [this]; exact hok.short x, hm, S, rOw_some this.symm h1, h2⟩

open Classical in
set_option maxHeartbeats 8000000 in
theorem own_calls {c : ConfV} {most : Int} {w : World} (hc : Has w (rConf c)) (hst : Has w stepsR) (hu : Upto c) (hwf : ∀ p ∈ c.robots.l, PoseWf p) {Q : Prop} (_ : Q) :
    Calls Tryd.prog 3 #[.agg c.cells.toArray, .int .i64 most] w (Ret (.bool true) w) := by
  have hK : Know w w none' [] [rConf c, stepsR] := Know.start (L := [rConf c, stepsR]) w (by
    intro r hr
    simp only [List.mem_cons, List.not_mem_nil, or_false] at hr
    rcases hr with rfl | rfl
    · exact hc
    · exact hst)
  clear hc hst
  obtain ⟨m0, h0⟩ : ∃ m, SM.start c.p = m := ⟨_, rfl⟩
  have M0 := Lib.hid h0
  rcases may_ways c.p with ⟨hn, hm, hs⟩ | ⟨hy, hm, hs⟩ | ⟨hy, hm, hs, hsm⟩
  · have HN := Lib.hid hn
    have HM := Lib.hid hm
    have HS := Lib.hid hs
    clear hn hm hs h0
    go_enter Tryd.func3, Tryd.ntmps3
    go_wp2_with (first
      | ((with_reducible refine wl_at (o := ⟨some 2, .box _ _, _, _, _, _⟩) ?_)
         go_must (refine wl_boxK hK rfl rfl rfl rfl ?_; clear hK; intro w2 b2 hK))
      | (go_at_call 10; go_must (refine (dup_calls (c := c) hK.lent hu).mono ?_; rintro e w' ⟨d, rfl, hd, hT⟩; replace hK := hK.push1 hT; have HD := Lib.hid hd; clear hT hd))
      | (go_at_call 12; go_must (refine (hK.quiet (kn_small HS.out hu hK.lent)).mono ?_; clear hK; rintro e w' ⟨rfl, hK⟩))
      | (go_at_call 13; go_must (refine (hK.quiet (kn_may HM.out hu hK.lent)).mono ?_; clear hK; rintro e w' ⟨rfl, hK⟩))
      | (go_at_call 14; go_must (refine (hK.quiet (awake_calls hK.lent)).mono ?_; clear hK; rintro e w' ⟨rfl, hK⟩))
      | (go_at_call 11; go_must (refine (hK.quiet (kn_no HN.out HD.out hu hwf hK.own hK.lent)).mono ?_; clear hK; rintro e w' ⟨rfl, hK⟩))
      | ((with_reducible refine wl_at (o := ⟨some 5, .alloc _, _, _, _, _⟩) ?_)
         go_must (refine wl_allocK (z := .agg (confZ).toArray) (zs := confZ) hK rfl rfl (by kernel_rfl) rfl ?_; clear hK; intro w5 b5 hK))
      | ((with_reducible refine wl_at (o := ⟨none, .store 26 _ _, _, _, _, _⟩) ?_)
         go_must (refine wl_storeWK (vs := ConfV.cells d) hK rfl rfl rfl rfl (aggS (by decide)) (conf_one d) (h := ?_); clear hK; intro w' hK; simp only [List.set_cons_zero, List.set_cons_succ] at hK))
      | go_big_skip
      | go_big_skip
      | ((with_reducible refine wl_at (o := ⟨_, .load _ _, _, _, _, _⟩) ?_)
         first
           | refine wl_loadK hK rfl rfl rfl (scalT (by decide)) (h := ?_)
           | refine wl_loadSK hK rfl rfl rfl (aggT (by decide)) (h := ?_)
           | refine wl_loadA0 rfl rfl rfl (scalT (by decide)) (h := ?_)
           | refine wl_loadA rfl rfl rfl (scalT (by decide)) (h := ?_)
           | refine wl_loadSA rfl rfl rfl (aggT (by decide)) (h := ?_))
      | (with_reducible refine atEnd_mk (by kernel_rfl) ?_))
    go_ret
    exact ⟨rfl, hK.mod⟩
  · have HY := Lib.hid hy
    have HM := Lib.hid hm
    have HS := Lib.hid hs
    clear hy hm hs h0
    go_enter Tryd.func3, Tryd.ntmps3
    go_wp2_with (first
      | ((with_reducible refine wl_at (o := ⟨some 2, .box _ _, _, _, _, _⟩) ?_)
         go_must (refine wl_boxK hK rfl rfl rfl rfl ?_; clear hK; intro w2 b2 hK))
      | (go_at_call 10; go_must (refine (dup_calls (c := c) hK.lent hu).mono ?_; rintro e w' ⟨d, rfl, hd, hT⟩; replace hK := hK.push1 hT; have HD := Lib.hid hd; clear hT hd))
      | (go_at_call 12; go_must (refine (hK.quiet (kn_small HS.out hu hK.lent)).mono ?_; clear hK; rintro e w' ⟨rfl, hK⟩))
      | (go_at_call 13; go_must (refine (hK.quiet (kn_may HM.out hu hK.lent)).mono ?_; clear hK; rintro e w' ⟨rfl, hK⟩))
      | (go_at_call 14; go_must (refine (hK.quiet (awake_calls hK.lent)).mono ?_; clear hK; rintro e w' ⟨rfl, hK⟩))
      | (go_at_call 11; go_must (refine (kn_yesX M0.out HY.out HD.out hu hwf hK.own hK.lent).mono ?_; rintro e w' ⟨p, rfl, hT⟩; replace hK := hK.push1 hT; clear hT))
      | ((with_reducible refine wl_at (o := ⟨some 5, .alloc _, _, _, _, _⟩) ?_)
         go_must (refine wl_allocK (z := .agg (confZ).toArray) (zs := confZ) hK rfl rfl (by kernel_rfl) rfl ?_; clear hK; intro w5 b5 hK))
      | ((with_reducible refine wl_at (o := ⟨none, .store 26 _ _, _, _, _, _⟩) ?_)
         go_must (refine wl_storeWK (vs := ConfV.cells d) hK rfl rfl rfl rfl (aggS (by decide)) (conf_one d) (h := ?_); clear hK; intro w' hK; simp only [List.set_cons_zero, List.set_cons_succ] at hK))
      | go_big_skip
      | go_big_skip
      | ((with_reducible refine wl_at (o := ⟨_, .load _ _, _, _, _, _⟩) ?_)
         first
           | refine wl_loadK hK rfl rfl rfl (scalT (by decide)) (h := ?_)
           | refine wl_loadSK hK rfl rfl rfl (aggT (by decide)) (h := ?_)
           | refine wl_loadA0 rfl rfl rfl (scalT (by decide)) (h := ?_)
           | refine wl_loadA rfl rfl rfl (scalT (by decide)) (h := ?_)
           | refine wl_loadSA rfl rfl rfl (aggT (by decide)) (h := ?_))
      | (with_reducible refine atEnd_mk (by kernel_rfl) ?_))
    go_ret
    exact ⟨rfl, hK.mod⟩
  · have HY := Lib.hid hy
    have HM := Lib.hid hm
    have HS := Lib.hid hs
    have HOK : Hid (SMOk c.p m0) := by show SMOk _ _; rw [← h0]; exact start_ok hy
    obtain ⟨k, hk⟩ : ∃ k : Nat, most % 40 = (k : Int) := ⟨(most % 40).toNat, by have := Int.emod_nonneg most (show (40 : Int) ≠ 0 by omega); omega⟩
    have hkl : k < 40 := by have := Int.emod_lt_of_pos most (show (0 : Int) < 40 by omega); omega
    have kPl := Lib.hid (fun (W : World) => show Calls Tryd.prog 16 #[.int .i64 most, .int .i64 40] W fun e w' => e = .returned (.int .i64 (k : Int)) ∧ w' = W from
      (Place_calls most 40 W (by omega) (by omega)).mono fun e w' h => ⟨by rw [h.1, hk], h.2.symm⟩)
    obtain ⟨q, hq⟩ : ∃ q : Nat, q = k + 1 := ⟨_, rfl⟩
    have k1 : (1 : Int) + (k : Int) = (q : Int) := by omega
    have q40 : q ≤ 40 := by omega
    have q1 : 1 ≤ q := by omega
    have hl1 : (m0.told c.p).length ≤ 1048576 := by have := told_len (m := m0) hy; omega
    have hl2 := told_short HOK.out
    have hcut := Lib.hid (show ∀ (x y : List StackV), x.map StackV.p = m0.told c.p → y.map StackV.p = (m0.told c.p).take q → y.map StackV.p = (m0.told c.p).take (if x.length < q then x.length else q) from fun x y h1 h2 => by
      have e := congrArg List.length h1
      rw [List.length_map] at e
      split
      · rw [h2, List.take_of_length_le (by omega), List.take_of_length_le (by omega)]
      · exact h2)
    clear hy hm hs h0 hk hq
    go_enter Tryd.func3, Tryd.ntmps3
    go_wp2_with (first
      | ((with_reducible refine wl_at (o := ⟨some 2, .box _ _, _, _, _, _⟩) ?_)
         go_must (refine wl_boxK hK rfl rfl rfl rfl ?_; clear hK; intro w2 b2 hK))
      | (go_at_call 10; go_must (refine (dup_calls (c := c) hK.lent hu).mono ?_; rintro e w' ⟨d, rfl, hd, hT⟩; replace hK := hK.push1 hT; have HD := Lib.hid hd; clear hT hd))
      | (go_at_call 12; go_must (refine (hK.quiet (kn_small HS.out hu hK.lent)).mono ?_; clear hK; rintro e w' ⟨rfl, hK⟩))
      | (go_at_call 13; go_must (refine (hK.quiet (kn_may HM.out hu hK.lent)).mono ?_; clear hK; rintro e w' ⟨rfl, hK⟩))
      | (go_at_call 14; go_must (refine (hK.quiet (awake_calls hK.lent)).mono ?_; clear hK; rintro e w' ⟨rfl, hK⟩))
      | (go_at_call 11; go_must (refine (kn_yesX M0.out HY.out HD.out hu hwf hK.own hK.lent).mono ?_; rintro e w' ⟨p, rfl, hT⟩; replace hK := hK.push1 hT; clear hT))
      | ((with_reducible refine wl_at (o := ⟨some 5, .alloc _, _, _, _, _⟩) ?_)
         go_must (refine wl_allocK (z := .agg (confZ).toArray) (zs := confZ) hK rfl rfl (by kernel_rfl) rfl ?_; clear hK; intro w5 b5 hK))
      | ((with_reducible refine wl_at (o := ⟨none, .store 26 _ _, _, _, _, _⟩) ?_)
         go_must (refine wl_storeWK (vs := ConfV.cells d) hK rfl rfl rfl rfl (aggS (by decide)) (conf_one d) (h := ?_); clear hK; intro w' hK; simp only [List.set_cons_zero, List.set_cons_succ] at hK))
      | (go_at_call 16; go_must (refine (hK.quiet ((kPl.out _).mono (fun e w' h => ⟨h.1, by rw [h.2]; exact Mod.refl _ _⟩))).mono ?_; clear hK; rintro e w' ⟨rfl, hK⟩))
      | (go_at_call 15; go_must (first
          | (with_reducible refine (kn_toldX (m := m0) hK.own).mono ?_; rintro e w' ⟨ta, rfl, hta, hT⟩; replace hK := hK.push hT; simp only [List.cons_append, List.nil_append] at hK; have HTa := Lib.hid hta; clear hT hta)
          | (with_reducible refine (k_toldK (m := m0) (k := q) hK.own q1).mono ?_; rintro e w' ⟨tb, rfl, htb, hT⟩; replace hK := hK.push hT; simp only [List.cons_append, List.nil_append] at hK; have HTb := Lib.hid htb; clear hT htb)))
      | ((with_reducible refine wl_at (o := ⟨some 57, _, _, _, _, _⟩) ?_); go_must (have hx1 := hcut.out ta.l tb.l HTa.out HTb.out; have hx2 : (if ta.l.length < q then ta.l.length else q) ≤ ta.l.length := (by split <;> omega); have hmm : (if ta.l.length < q then (ta.l.length : Int) else (q : Int)) = ((if ta.l.length < q then ta.l.length else q : Nat) : Int) := (by split <;> rfl); rw [hmm]; clear hmm; generalize (if ta.l.length < q then ta.l.length else q) = hh at hx1 hx2 ⊢; have HX1 := Lib.hid hx1; have HX2 := Lib.hid hx2; clear hx1 hx2; refine wl_sub (l := 0) (h := hh) (k := hh) rfl rfl rfl (.inl ⟨rfl, rfl⟩) (.inr ⟨_, _, rfl, rfl⟩) stackTy.und stackTy.size (hK.rd (v := ta.val) (l := ta.l)) (Nat.zero_add _) HX2.out ?_; intro ads caps hsub _))
      | (go_at_call 17; go_must (refine (hK.quiet (same_sub (h := hh) hK.own hK.own hK.own hsub HTa.out HX1.out HX2.out hl1 hl2)).mono ?_; clear hK; rintro e w' ⟨rfl, hK⟩))
      | (go_at_call 18; go_must (refine (k_copy hK.own hK.own HTa.out hl1 hl2).mono ?_; rintro e w' ⟨adc, nc, kc, rfl, hT⟩; replace hK := hK.push1 hT; clear hT))
      | go_big_skip
      | go_big_skip
      | ((with_reducible refine wl_at (o := ⟨_, .load _ _, _, _, _, _⟩) ?_)
         first
           | refine wl_loadK hK rfl rfl rfl (scalT (by decide)) (h := ?_)
           | refine wl_loadSK hK rfl rfl rfl (aggT (by decide)) (h := ?_)
           | refine wl_loadA0 rfl rfl rfl (scalT (by decide)) (h := ?_)
           | refine wl_loadA rfl rfl rfl (scalT (by decide)) (h := ?_)
           | refine wl_loadSA rfl rfl rfl (aggT (by decide)) (h := ?_))
      | (with_reducible refine atEnd_mk (by kernel_rfl) ?_))
    have hblen : tb.l.length ≤ 256 := by
      have h1 := congrArg List.length HTb.out
      rw [List.length_map, List.length_take] at h1
      have := told_len (m := m0) HY.out
      omega
    have hsh := Lib.hid (show ∀ u ∈ tb.l, u.bins.l.length ≤ 1048576 from fun u hu => hl2 u.p (by
      have : u.p ∈ tb.l.map StackV.p := List.mem_map_of_mem hu
      rw [HTb.out] at this
      exact List.mem_of_mem_take this))
    have hdl := Lib.hid (upto_p HD.out hu)
    clear hl2 hcut
    -- what was told may be anything from now on
    replace hK := hK.seen (many_any (l := tb.l))
    simp only [List.set_cons_zero, List.set_cons_succ] at hK
    replace hK := hK.pull (.tail .head)
    replace hK := hK.sub (.cons_cons _ (.cons_cons _ (.cons_cons _ (.cons _ (.cons _ (List.Sublist.refl _))))))
    go_loopg [11, 12, 13, 14] tb.l.length (fun k i _ _ _ wr => ∃ (j : Nat) (M : List Res), i = .int .i64 j ∧ k = tb.l.length - j ∧ j ≤ tb.l.length ∧
      Know w wr none' [rMany (tb.l.map anyRes), rTold (.slice adc nc kc) (m0.told c.p), rOw 42 elStack tb.val tb.l, rSTK c.p p m0, rBlk b5 d.cells 26, rDup d, rBlk b2 c.cells 26] [rConf c, stepsR])
    case atStart => exact ⟨0, [], rfl, by omega, Nat.zero_le _, hK⟩
    case round =>
      obtain ⟨j, _, rfl, rfl, hj, hK⟩ := hrel
      by_cases hlt : j < tb.l.length
      · obtain ⟨u, hu0⟩ : ∃ u, tb.l[j]? = some u := ⟨_, List.getElem?_eq_getElem hlt⟩
        have HU := Lib.hid hu0
        have hub := hsh.out u (List.mem_of_getElem? hu0)
        have hsame := Lib.hid (show (tb.l.map anyRes).set j (anyRes u) = tb.l.map anyRes from set_same (by rw [List.getElem?_map, hu0]; rfl))
        replace hK := hK.pickAt (m := j) (r := anyRes u) (by rw [List.getElem?_map, hu0]; rfl)
        clear hu0
        obtain ⟨rest, hrest⟩ : ∃ r, r = (tb.l.map anyRes).take j ++ (tb.l.map anyRes).drop (j + 1) := ⟨_, rfl⟩
        rw [← hrest] at hK
        have HRest := Lib.hid hrest
        clear hrest
        go_wp2_with (first
          | go_big_skip
          | ((with_reducible refine wl_at (o := ⟨_, .load _ _, _, _, _, _⟩) ?_)
             first
               | refine wl_loadK hK rfl rfl rfl (scalT (by decide)) (h := ?_)
               | refine wl_loadSK hK rfl rfl rfl (aggT (by decide)) (h := ?_)
               | refine wl_loadA0 rfl rfl rfl (scalT (by decide)) (h := ?_)
               | refine wl_loadA rfl rfl rfl (scalT (by decide)) (h := ?_)
               | refine wl_loadSA rfl rfl rfl (aggT (by decide)) (h := ?_))
          | (with_reducible refine atEnd_mk (by kernel_rfl) ?_))
        go_loopg [12] u.bins.l.length (fun k i wr => ∃ (n : Nat) (M : List Res), i = .int .i64 n ∧ k = u.bins.l.length - n ∧ n ≤ u.bins.l.length ∧
          Know w wr none' [anyRes u, rMany rest, rTold (.slice adc nc kc) (m0.told c.p), rOw 42 elStack tb.val tb.l, rSTK c.p p m0, rBlk b5 d.cells 26, rDup d, rBlk b2 c.cells 26] [rConf c, stepsR])
        case atStart => exact ⟨0, [], rfl, by omega, Nat.zero_le _, hK⟩
        case round =>
          obtain ⟨n, _, rfl, rfl, hn, hK⟩ := hrel
          by_cases hnl : n < u.bins.l.length
          · go_wp2_with (first
              | ((with_reducible refine wl_at (o := ⟨some 71, _, _, _, _, _⟩) ?_)
                 go_must (refine wl_ixK hK rfl rfl rfl rfl stackTy.und stackTy.size (h := ?_); intro b71 k71 hat71))
              | ((with_reducible refine wl_at (o := ⟨some 80, _, _, _, _, _⟩) ?_)
                 go_must (refine wl_ixK hK rfl rfl rfl rfl stackTy.und stackTy.size (h := ?_); intro b80 k80 hat80))
              | ((with_reducible refine wl_at (o := ⟨some 84, _, _, _, _, _⟩) ?_); go_must (refine wl_ixAny (e := 3) (E := elInt) hK rfl rfl rfl rfl intTy.und intTy.size hnl (h := ?_); intro b84 k84 hsp84))
              | ((with_reducible refine wl_at (o := ⟨none, .store 3 _ _, _, _, _, _⟩) ?_); go_must (refine wl_storeAny (-5 : Int) hK rfl rfl rfl rfl (sizT (by decide)) hsp84 hnl (hv := .inr ⟨rfl, rfl⟩) (h := ?_); clear hK; intro w' hK; simp only [List.set_cons_zero, List.set_cons_succ] at hK))
              | go_big_skip
              | go_big_skip
              | ((with_reducible refine wl_at (o := ⟨_, .load _ _, _, _, _, _⟩) ?_)
                 first
                   | refine wl_loadK hK rfl rfl rfl (scalT (by decide)) (h := ?_)
                   | refine wl_loadSK hK rfl rfl rfl (aggT (by decide)) (h := ?_)
                   | refine wl_loadA0 rfl rfl rfl (scalT (by decide)) (h := ?_)
                   | refine wl_loadA rfl rfl rfl (scalT (by decide)) (h := ?_)
                   | refine wl_loadSA rfl rfl rfl (aggT (by decide)) (h := ?_))
              | (with_reducible refine atEnd_mk (by kernel_rfl) ?_))
            go_roundg (u.bins.l.length - (n + 1))
            case measure => omega
            case rel => exact ⟨n + 1, [], by go_num, rfl, by omega, hK⟩
          · obtain rfl : n = u.bins.l.length := by omega
            go_wp2_with (first
              | ((with_reducible refine wl_at (o := ⟨some 71, _, _, _, _, _⟩) ?_)
                 go_must (refine wl_ixK hK rfl rfl rfl rfl stackTy.und stackTy.size (h := ?_); intro b71 k71 hat71))
              | ((with_reducible refine wl_at (o := ⟨some 88, _, _, _, _, _⟩) ?_)
                 go_must (refine wl_ixK hK rfl rfl rfl rfl stackTy.und stackTy.size (h := ?_); intro b88 k88 hat88))
              | ((with_reducible refine wl_at (o := ⟨some 90, _, _, _, _, _⟩) ?_)
                 go_must (refine wl_loadP0 (Cell.cells (u.at_)) rfl rfl rfl (aggT (by decide)) (h := ?_)))
              | (go_at_call 19; go_must (refine (k_AtAny hK.own).mono ?_; rintro e w' ⟨adl, nl, capl, rfl, hnl2, hT⟩; replace hK := hK.push1 hT; clear hT))
              | go_big_skip
              | go_big_skip
              | ((with_reducible refine wl_at (o := ⟨_, .load _ _, _, _, _, _⟩) ?_)
                 first
                   | refine wl_loadK hK rfl rfl rfl (scalT (by decide)) (h := ?_)
                   | refine wl_loadSK hK rfl rfl rfl (aggT (by decide)) (h := ?_)
                   | refine wl_loadA0 rfl rfl rfl (scalT (by decide)) (h := ?_)
                   | refine wl_loadA rfl rfl rfl (scalT (by decide)) (h := ?_)
                   | refine wl_loadSA rfl rfl rfl (aggT (by decide)) (h := ?_))
              | (with_reducible refine atEnd_mk (by kernel_rfl) ?_))
            go_loopg [14] nl (fun k i wr => ∃ (n : Nat) (M : List Res), i = .int .i64 n ∧ k = nl - n ∧ n ≤ nl ∧
              Know w wr none' [rSome 3 elInt (.slice adl nl capl) nl, anyRes u, rMany rest, rTold (.slice adc nc kc) (m0.told c.p), rOw 42 elStack tb.val tb.l, rSTK c.p p m0, rBlk b5 d.cells 26, rDup d, rBlk b2 c.cells 26] [rConf c, stepsR])
            case atStart => exact ⟨0, [], rfl, by omega, Nat.zero_le _, hK⟩
            case round =>
              obtain ⟨n, _, rfl, rfl, hn, hK⟩ := hrel
              by_cases hnl : n < nl
              · go_wp2_with (first
                  | ((with_reducible refine wl_at (o := ⟨some 100, _, _, _, _, _⟩) ?_); go_must (refine wl_ixAny (e := 3) (E := elInt) hK rfl rfl rfl rfl intTy.und intTy.size hnl (h := ?_); intro b100 k100 hsp100))
                  | ((with_reducible refine wl_at (o := ⟨none, .store 3 _ _, _, _, _, _⟩) ?_); go_must (refine wl_storeAny (-6 : Int) hK rfl rfl rfl rfl (sizT (by decide)) hsp100 hnl (hv := .inr ⟨rfl, rfl⟩) (h := ?_); clear hK; intro w' hK; simp only [List.set_cons_zero, List.set_cons_succ] at hK))
                  | go_big_skip
                  | go_big_skip
                  | ((with_reducible refine wl_at (o := ⟨_, .load _ _, _, _, _, _⟩) ?_)
                     first
                       | refine wl_loadK hK rfl rfl rfl (scalT (by decide)) (h := ?_)
                       | refine wl_loadSK hK rfl rfl rfl (aggT (by decide)) (h := ?_)
                       | refine wl_loadA0 rfl rfl rfl (scalT (by decide)) (h := ?_)
                       | refine wl_loadA rfl rfl rfl (scalT (by decide)) (h := ?_)
                       | refine wl_loadSA rfl rfl rfl (aggT (by decide)) (h := ?_))
                  | (with_reducible refine atEnd_mk (by kernel_rfl) ?_))
                go_roundg (nl - (n + 1))
                case measure => omega
                case rel => exact ⟨n + 1, [], by go_num, rfl, by omega, hK⟩
              · obtain rfl : n = nl := by omega
                go_wp2_with (first
                  | go_big_skip
                  | go_big_skip
                  | ((with_reducible refine wl_at (o := ⟨_, .load _ _, _, _, _, _⟩) ?_)
                     first
                       | refine wl_loadK hK rfl rfl rfl (scalT (by decide)) (h := ?_)
                       | refine wl_loadSK hK rfl rfl rfl (aggT (by decide)) (h := ?_)
                       | refine wl_loadA0 rfl rfl rfl (scalT (by decide)) (h := ?_)
                       | refine wl_loadA rfl rfl rfl (scalT (by decide)) (h := ?_)
                       | refine wl_loadSA rfl rfl rfl (aggT (by decide)) (h := ?_))
                  | (with_reducible refine atEnd_mk (by kernel_rfl) ?_))
                replace hK := hK.sub (.cons _ (List.Sublist.refl _))
                rw [HRest.out] at hK
                replace hK := Know.putAt hK (by rw [List.length_map]; exact hlt)
                rw [hsame.out] at hK
                go_roundg (tb.l.length - (j + 1))
                case measure => omega
                case rel => exact ⟨j + 1, [], by go_num, rfl, by omega, hK⟩
      · obtain rfl : j = tb.l.length := by omega
        -- the config's copy
        replace hK := hK.pull (.tail (.tail (.tail (.tail (.tail .head)))))
        replace hK := hK.split (R := rOwnConf d) .head fun w S h => rMany_p.1 h
        simp only [rOwnConf, List.cons_append, List.nil_append] at hK
        replace hK := hK.seen (many_any (l := d.stacks.l))
        simp only [List.set_cons_zero, List.set_cons_succ] at hK
        replace hK := hK.sub (.cons_cons _ (.cons_cons _ (.cons _ (.cons _ (.cons _ (.cons _ (.cons_cons _ (.cons _ (List.Sublist.refl _)))))))))
        have hds := hdl.out.stacks
        go_wp2_with (first
          | go_big_skip
          | go_big_skip
          | ((with_reducible refine wl_at (o := ⟨_, .load _ _, _, _, _, _⟩) ?_)
             first
               | refine wl_loadK hK rfl rfl rfl (scalT (by decide)) (h := ?_)
               | refine wl_loadSK hK rfl rfl rfl (aggT (by decide)) (h := ?_)
               | refine wl_loadA0 rfl rfl rfl (scalT (by decide)) (h := ?_)
               | refine wl_loadA rfl rfl rfl (scalT (by decide)) (h := ?_)
               | refine wl_loadSA rfl rfl rfl (aggT (by decide)) (h := ?_))
          | (with_reducible refine atEnd_mk (by kernel_rfl) ?_))
        go_loopg [15, 16] d.stacks.l.length (fun k i _ wr => ∃ (j : Nat) (M : List Res), i = .int .i64 j ∧ k = d.stacks.l.length - j ∧ j ≤ d.stacks.l.length ∧
          Know w wr none' [rMany (d.stacks.l.map anyRes), rOw 42 elStack d.stacks.val d.stacks.l, rTold (.slice adc nc kc) (m0.told c.p), rSTK c.p p m0, rBlk b5 d.cells 26, rBlk b2 c.cells 26] [rConf c, stepsR])
        case atStart => exact ⟨0, [], rfl, by omega, Nat.zero_le _, hK⟩
        case round =>
          obtain ⟨j, _, rfl, rfl, hj, hK⟩ := hrel
          by_cases hlt : j < d.stacks.l.length
          · obtain ⟨u, hu0⟩ : ∃ u, d.stacks.l[j]? = some u := ⟨_, List.getElem?_eq_getElem hlt⟩
            have HU := Lib.hid hu0
            have hub := hdl.out.bins u (List.mem_of_getElem? hu0)
            have hsame := Lib.hid (show (d.stacks.l.map anyRes).set j (anyRes u) = d.stacks.l.map anyRes from set_same (by rw [List.getElem?_map, hu0]; rfl))
            replace hK := hK.pickAt (m := j) (r := anyRes u) (by rw [List.getElem?_map, hu0]; rfl)
            clear hu0
            obtain ⟨rest, hrest⟩ : ∃ r, r = (d.stacks.l.map anyRes).take j ++ (d.stacks.l.map anyRes).drop (j + 1) := ⟨_, rfl⟩
            rw [← hrest] at hK
            have HRest := Lib.hid hrest
            clear hrest
            go_wp2_with (first
              | go_big_skip
              | go_big_skip
              | ((with_reducible refine wl_at (o := ⟨_, .load _ _, _, _, _, _⟩) ?_)
                 first
                   | refine wl_loadK hK rfl rfl rfl (scalT (by decide)) (h := ?_)
                   | refine wl_loadSK hK rfl rfl rfl (aggT (by decide)) (h := ?_)
                   | refine wl_loadA0 rfl rfl rfl (scalT (by decide)) (h := ?_)
                   | refine wl_loadA rfl rfl rfl (scalT (by decide)) (h := ?_)
                   | refine wl_loadSA rfl rfl rfl (aggT (by decide)) (h := ?_))
              | (with_reducible refine atEnd_mk (by kernel_rfl) ?_))
            go_loopg [16] u.bins.l.length (fun k i wr => ∃ (n : Nat) (M : List Res), i = .int .i64 n ∧ k = u.bins.l.length - n ∧ n ≤ u.bins.l.length ∧
              Know w wr none' [anyRes u, rMany rest, rOw 42 elStack d.stacks.val d.stacks.l, rTold (.slice adc nc kc) (m0.told c.p), rSTK c.p p m0, rBlk b5 d.cells 26, rBlk b2 c.cells 26] [rConf c, stepsR])
            case atStart => exact ⟨0, [], rfl, by omega, Nat.zero_le _, hK⟩
            case round =>
              obtain ⟨n, _, rfl, rfl, hn, hK⟩ := hrel
              by_cases hnl : n < u.bins.l.length
              · go_wp2_with (first
                  | ((with_reducible refine wl_at (o := ⟨some 112, _, _, _, _, _⟩) ?_)
                     go_must (refine wl_ixK hK rfl rfl rfl rfl stackTy.und stackTy.size (h := ?_); intro b112 k112 hat112))
                  | ((with_reducible refine wl_at (o := ⟨some 122, _, _, _, _, _⟩) ?_)
                     go_must (refine wl_ixK hK rfl rfl rfl rfl stackTy.und stackTy.size (h := ?_); intro b122 k122 hat122))
                  | ((with_reducible refine wl_at (o := ⟨some 126, _, _, _, _, _⟩) ?_); go_must (refine wl_ixAny (e := 3) (E := elInt) hK rfl rfl rfl rfl intTy.und intTy.size hnl (h := ?_); intro b126 k126 hsp126))
                  | ((with_reducible refine wl_at (o := ⟨none, .store 3 _ _, _, _, _, _⟩) ?_); go_must (refine wl_storeAny (-7 : Int) hK rfl rfl rfl rfl (sizT (by decide)) hsp126 hnl (hv := .inr ⟨rfl, rfl⟩) (h := ?_); clear hK; intro w' hK; simp only [List.set_cons_zero, List.set_cons_succ] at hK))
                  | go_big_skip
                  | go_big_skip
                  | ((with_reducible refine wl_at (o := ⟨_, .load _ _, _, _, _, _⟩) ?_)
                     first
                       | refine wl_loadK hK rfl rfl rfl (scalT (by decide)) (h := ?_)
                       | refine wl_loadSK hK rfl rfl rfl (aggT (by decide)) (h := ?_)
                       | refine wl_loadA0 rfl rfl rfl (scalT (by decide)) (h := ?_)
                       | refine wl_loadA rfl rfl rfl (scalT (by decide)) (h := ?_)
                       | refine wl_loadSA rfl rfl rfl (aggT (by decide)) (h := ?_))
                  | (with_reducible refine atEnd_mk (by kernel_rfl) ?_))
                go_roundg (u.bins.l.length - (n + 1))
                case measure => omega
                case rel => exact ⟨n + 1, [], by go_num, rfl, by omega, hK⟩
              · obtain rfl : n = u.bins.l.length := by omega
                go_wp2_with (first
                  | ((with_reducible refine wl_at (o := ⟨some 112, _, _, _, _, _⟩) ?_)
                     go_must (refine wl_ixK hK rfl rfl rfl rfl stackTy.und stackTy.size (h := ?_); intro b112 k112 hat112))
                  | go_big_skip
                  | go_big_skip
                  | ((with_reducible refine wl_at (o := ⟨_, .load _ _, _, _, _, _⟩) ?_)
                     first
                       | refine wl_loadK hK rfl rfl rfl (scalT (by decide)) (h := ?_)
                       | refine wl_loadSK hK rfl rfl rfl (aggT (by decide)) (h := ?_)
                       | refine wl_loadA0 rfl rfl rfl (scalT (by decide)) (h := ?_)
                       | refine wl_loadA rfl rfl rfl (scalT (by decide)) (h := ?_)
                       | refine wl_loadSA rfl rfl rfl (aggT (by decide)) (h := ?_))
                  | (with_reducible refine atEnd_mk (by kernel_rfl) ?_))
                rw [HRest.out] at hK
                replace hK := Know.putAt hK (by rw [List.length_map]; exact hlt)
                rw [hsame.out] at hK
                go_roundg (d.stacks.l.length - (j + 1))
                case measure => omega
                case rel => exact ⟨j + 1, [], by go_num, rfl, by omega, hK⟩
          · obtain rfl : j = d.stacks.l.length := by omega
            go_wp2_with (first
              | (go_at_call 15; go_must (refine (kn_told (m := m0) hK.own).mono ?_; rintro e w' ⟨adf, nf, kf, rfl, hnf, hT⟩; replace hK := hK.push1 hT; have HNf := Lib.hid hnf; clear hT hnf))
              | (go_at_call 17; go_must (refine (hK.quiet (kn_same HOK.out (decide_eq_true rfl) hK.own hK.own)).mono ?_; clear hK; rintro e w' ⟨rfl, hK⟩))
              | (go_at_call 14; go_must (refine (hK.quiet (awake_calls hK.lent)).mono ?_; clear hK; rintro e w' ⟨rfl, hK⟩))
              | go_big_skip
              | go_big_skip
              | ((with_reducible refine wl_at (o := ⟨_, .load _ _, _, _, _, _⟩) ?_)
                 first
                   | refine wl_loadK hK rfl rfl rfl (scalT (by decide)) (h := ?_)
                   | refine wl_loadSK hK rfl rfl rfl (aggT (by decide)) (h := ?_)
                   | refine wl_loadA0 rfl rfl rfl (scalT (by decide)) (h := ?_)
                   | refine wl_loadA rfl rfl rfl (scalT (by decide)) (h := ?_)
                   | refine wl_loadSA rfl rfl rfl (aggT (by decide)) (h := ?_))
              | (with_reducible refine atEnd_mk (by kernel_rfl) ?_))
            go_ret
            exact ⟨rfl, hK.mod⟩
end Go.Proofs.YtcklkojggpfbnaaDoor
