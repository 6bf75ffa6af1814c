/- Chapter 8's own answer: At, Height, Top, Load. -/
import Derived.Test.YtcklkojggpfbnaaDoorR8cQ
set_option linter.all false
namespace Go.Proofs.YtcklkojggpfbnaaDoor
open Go Go.Sk Go.RowKit
set_option maxRecDepth 100000

set_option maxHeartbeats 2000000 in
theorem rf_At {c : ConfV} {p : Nat} {m : SM} {x : Cell} {w : World} (h : Has w (rREF c p m)) : Calls Tryd.prog 37 #[.pointer (some ⟨p, 0, none⟩), .agg x.cells.toArray] w fun e w' =>
    ∃ (ad : Option Addr) (n cap : Nat), e = .returned (.slice ad n cap) ∧ n = (m.f x).length ∧ Mod none' w w' ∧ Rd w' elInt (.slice ad n cap) (m.f x) := by
  obtain ⟨v, rfl, hv, hg⟩ := Has.ref h
  have hK : Know w w none' [] (rRf c v) := Know.start (L := rRf c v) w hg
  have kA := Lib.hid (fun (W : World) (h1 : Has W (rBlk v.p (rfCells c v) 84)) (h2 : Has W (rOw 42 elStack v.cells.val v.cells.l)) => rf_place (x := x) h1 h2 hv)
  rcases place_ways hv.ok.may (m := m) x with ⟨ho, hpl⟩ | ⟨ho, q, hpl, hq⟩
  · have h0 := hv.ok.closed x ho
    rw [hpl] at kA
    rw [h0]
    clear h hv hg ho hpl h0
    simp only [rRf] at hK
    go_enter Tryd.func37, Tryd.ntmps37
    go_wp2_with (first
      | ((with_reducible refine wl_at (o := ⟨some 3, .box _ _, _, _, _, _⟩) ?_)
         go_must (refine wl_boxK hK rfl rfl rfl rfl ?_; clear hK; intro w3 b3 hK))
      | (go_at_call 54; go_must (refine (hK.quiet (kA.out _ hK.lent hK.lent)).mono ?_; clear hK; rintro e w' ⟨rfl, hK⟩))
      | go_big_skip
      | ((with_reducible refine wl_at (o := ⟨_, .load _ _, _, _, _, _⟩) ?_)
         first
           | refine wl_loadK hK rfl rfl rfl (scalT (by decide)) (h := ?_)
           | refine wl_loadSK hK rfl rfl rfl (aggT (by decide)) (h := ?_)
           | refine wl_loadA0 rfl rfl rfl (scalT (by decide)) (h := ?_)
           | refine wl_loadA rfl rfl rfl (scalT (by decide)) (h := ?_)
           | refine wl_loadSA rfl rfl rfl (aggT (by decide)) (h := ?_))
      | (with_reducible refine atEnd_mk (by kernel_rfl) ?_))
    go_ret
    exact ⟨none, 0, 0, rfl, rfl, hK.mod, Rd.nil _ _⟩
  · rw [hpl] at kA
    obtain ⟨s, hs1, hs2, hs3⟩ := hv.at hq
    have hql : q < v.cells.l.length := (List.getElem?_eq_some_iff.1 hs1).1
    have hql2 : q ≤ 256 := by have := hv.len; omega
    have HS1 := Lib.hid hs1
    rw [← hs3]
    clear h hv hg ho hpl hq hs2 hs3
    simp only [rRf] at hK
    go_enter Tryd.func37, Tryd.ntmps37
    go_wp2_with (first
      | ((with_reducible refine wl_at (o := ⟨some 3, .box _ _, _, _, _, _⟩) ?_)
         go_must (refine wl_boxK hK rfl rfl rfl rfl ?_; clear hK; intro w3 b3 hK))
      | (go_at_call 54; go_must (refine (hK.quiet (kA.out _ hK.lent hK.lent)).mono ?_; clear hK; rintro e w' ⟨rfl, hK⟩))
      | ((with_reducible refine wl_at (o := ⟨some 16, _, _, _, _, _⟩) ?_)
         go_must (refine wl_ixK hK rfl rfl rfl rfl stackTy.und stackTy.size (h := ?_); intro b16 k16 hat16))
      | go_big_skip
      | ((with_reducible refine wl_at (o := ⟨_, .load _ _, _, _, _, _⟩) ?_)
         first
           | refine wl_loadK hK rfl rfl rfl (scalT (by decide)) (h := ?_)
           | refine wl_loadSK hK rfl rfl rfl (aggT (by decide)) (h := ?_)
           | refine wl_loadA0 rfl rfl rfl (scalT (by decide)) (h := ?_)
           | refine wl_loadA rfl rfl rfl (scalT (by decide)) (h := ?_)
           | refine wl_loadSA rfl rfl rfl (aggT (by decide)) (h := ?_))
      | (with_reducible refine atEnd_mk (by kernel_rfl) ?_))
    go_ret
    exact ⟨s.bins.ad, s.bins.l.length, s.bins.cap, rfl, rfl, hK.mod, (rMany_has (hK.lent (r := rMany (v.cells.l.map rdRes))) (rdRes s) (List.mem_map_of_mem (List.mem_of_getElem? HS1.out))).rd⟩
set_option maxHeartbeats 2000000 in
theorem rf_height {c : ConfV} {p : Nat} {m : SM} {x : Cell} {w : World} (h : Has w (rREF c p m)) : Calls Tryd.prog 35 #[.pointer (some ⟨p, 0, none⟩), .agg x.cells.toArray] w (Ret (.int .i64 (m.height c.p x)) w) := by
  have hK : Know w w none' [] [rREF c p m] := Know.start (L := [rREF c p m]) w (by simpa using h)
  obtain ⟨v, rfl, hv, hg⟩ := Has.ref h
  have kA := Lib.hid (fun (W : World) (h1 : Mod none' w W) => rf_place (x := x) ((hg (rBlk v.p (rfCells c v) 84) (by simp [rRf])).mod h1) ((hg (rOw 42 elStack v.cells.val v.cells.l) (by simp [rRf])).mod h1) hv)
  rcases place_ways hv.ok.may (m := m) x with ⟨ho, hpl⟩ | ⟨ho, q, hpl, hq⟩
  · rw [hpl] at kA
    have hh : m.height c.p x = -1 := by unfold SM.height; rw [ho]; rfl
    rw [hh]
    clear h hv hg ho hpl hh
    go_enter Tryd.func35, Tryd.ntmps35
    go_wp2_with (first
      | ((with_reducible refine wl_at (o := ⟨some 3, .box _ _, _, _, _, _⟩) ?_)
         go_must (refine wl_boxK hK rfl rfl rfl rfl ?_; clear hK; intro w3 b3 hK))
      | (go_at_call 54; go_must (refine (hK.quiet (kA.out _ hK.mod)).mono ?_; clear hK; rintro e w' ⟨rfl, hK⟩))
      | go_big_skip
      | ((with_reducible refine wl_at (o := ⟨_, .load _ _, _, _, _, _⟩) ?_)
         first
           | refine wl_loadK hK rfl rfl rfl (scalT (by decide)) (h := ?_)
           | refine wl_loadSK hK rfl rfl rfl (aggT (by decide)) (h := ?_)
           | refine wl_loadA0 rfl rfl rfl (scalT (by decide)) (h := ?_)
           | refine wl_loadA rfl rfl rfl (scalT (by decide)) (h := ?_)
           | refine wl_loadSA rfl rfl rfl (aggT (by decide)) (h := ?_))
      | (with_reducible refine atEnd_mk (by kernel_rfl) ?_))
    go_ret
    exact ⟨rfl, hK.mod⟩
  · rw [hpl] at kA
    rw [height_open ho]
    clear h hv hg ho hpl hq
    go_enter Tryd.func35, Tryd.ntmps35
    go_wp2_with (first
      | ((with_reducible refine wl_at (o := ⟨some 3, .box _ _, _, _, _, _⟩) ?_)
         go_must (refine wl_boxK hK rfl rfl rfl rfl ?_; clear hK; intro w3 b3 hK))
      | (go_at_call 54; go_must (refine (hK.quiet (kA.out _ hK.mod)).mono ?_; clear hK; rintro e w' ⟨rfl, hK⟩))
      | (go_at_call 37; go_must (refine (rf_At (x := x) (m := m) hK.lent).mono ?_; rintro e w' ⟨ad, n, cap, rfl, hn, hm, hrd⟩; replace hK := hK.same hm; have HN := Lib.hid hn; clear hm hrd hn))
      | go_big_skip
      | ((with_reducible refine wl_at (o := ⟨_, .load _ _, _, _, _, _⟩) ?_)
         first
           | refine wl_loadK hK rfl rfl rfl (scalT (by decide)) (h := ?_)
           | refine wl_loadSK hK rfl rfl rfl (aggT (by decide)) (h := ?_)
           | refine wl_loadA0 rfl rfl rfl (scalT (by decide)) (h := ?_)
           | refine wl_loadA rfl rfl rfl (scalT (by decide)) (h := ?_)
           | refine wl_loadSA rfl rfl rfl (aggT (by decide)) (h := ?_))
      | (with_reducible refine atEnd_mk (by kernel_rfl) ?_))
    go_ret
    exact ⟨by rw [← HN.out]; rfl, hK.mod⟩
set_option maxHeartbeats 2000000 in
theorem rf_top {c : ConfV} {p : Nat} {m : SM} {x : Cell} {w : World} (h : Has w (rREF c p m)) : Calls Tryd.prog 36 #[.pointer (some ⟨p, 0, none⟩), .agg x.cells.toArray] w (Ret (.int .i64 (m.top c.p x)) w) := by
  have hK : Know w w none' [] [rREF c p m] := Know.start (L := [rREF c p m]) w (by simpa using h)
  obtain ⟨v, _, hv, _⟩ := Has.ref h
  have hsh := hv.ok.short x
  have ht : m.top c.p x = (m.f x).getLastD 0 := by
    unfold SM.top
    cases ho : openB c.p x with
    | true => rfl
    | false => rw [hv.ok.closed x ho]; rfl
  rw [ht]
  clear h hv ht
  by_cases h0 : m.f x = []
  · have hl0 : Hid ((m.f x).length = 0) := by show _ = _; rw [h0]; rfl
    have hd : (m.f x).getLastD 0 = 0 := by rw [h0]; rfl
    rw [hd]
    clear hd hsh h0
    go_enter Tryd.func36, Tryd.ntmps36
    go_wp2_with (first
      | ((with_reducible refine wl_at (o := ⟨some 3, .box _ _, _, _, _, _⟩) ?_)
         go_must (refine wl_boxK hK rfl rfl rfl rfl ?_; clear hK; intro w3 b3 hK))
      | (go_at_call 37; go_must (refine (rf_At (x := x) (m := m) hK.lent).mono ?_; rintro e w' ⟨ad, n, cap, rfl, hn, hm, hrd⟩; replace hK := hK.same hm; rw [hl0.out] at hn; subst hn; clear hm hrd))
      | go_big_skip
      | ((with_reducible refine wl_at (o := ⟨_, .load _ _, _, _, _, _⟩) ?_)
         first
           | refine wl_loadK hK rfl rfl rfl (scalT (by decide)) (h := ?_)
           | refine wl_loadSK hK rfl rfl rfl (aggT (by decide)) (h := ?_)
           | refine wl_loadA0 rfl rfl rfl (scalT (by decide)) (h := ?_)
           | refine wl_loadA rfl rfl rfl (scalT (by decide)) (h := ?_)
           | refine wl_loadSA rfl rfl rfl (aggT (by decide)) (h := ?_))
      | (with_reducible refine atEnd_mk (by kernel_rfl) ?_))
    go_ret
    exact ⟨rfl, hK.mod⟩
  · obtain ⟨k, hk⟩ : ∃ k, (m.f x).length = k + 1 := ⟨(m.f x).length - 1, by have := List.length_pos_iff.2 h0; omega⟩
    obtain ⟨b, hb⟩ : ∃ b, b = (m.f x).getLastD 0 := ⟨_, rfl⟩
    have hbk : Hid ((m.f x)[k]? = some b) := by
      show _ = _
      rw [hb, List.getLastD_eq_getLast?, List.getLast?_eq_getElem?, hk, Nat.add_sub_cancel, List.getElem?_eq_getElem (by omega)]
      rfl
    rw [← hb]
    obtain ⟨N, hN⟩ : ∃ N, N = (m.f x).length := ⟨_, rfl⟩
    have HN := Lib.hid hN
    have e1 : ((N : Int) == 0) = false := beq_eq_false_iff_ne.2 (by omega)
    have e1' : (N == 0) = false := beq_eq_false_iff_ne.2 (by omega)
    have i1 : (N : Int) - 1 = (k : Int) := by omega
    have hkN : k < N := by omega
    have hN10 : N ≤ 1024 := by omega
    clear hk hb h0 hN hsh
    go_enter Tryd.func36, Tryd.ntmps36
    go_wp2_with (first
      | ((with_reducible refine wl_at (o := ⟨some 3, .box _ _, _, _, _, _⟩) ?_)
         go_must (refine wl_boxK hK rfl rfl rfl rfl ?_; clear hK; intro w3 b3 hK))
      | (go_at_call 37; go_must (refine (rf_At (x := x) (m := m) hK.lent).mono ?_; rintro e w' ⟨ad, n, cap, rfl, hn, hm, hrd⟩; replace hK := hK.same hm; rw [← HN.out] at hn; subst hn; clear hm))
      | ((with_reducible refine wl_at (o := ⟨some 16, _, _, _, _, _⟩) ?_); go_must (refine wl_ix rfl rfl rfl rfl intTy.und intTy.size hrd hbk.out ?_; intro b16 k16 hat16 hbk16))
      | go_big_skip
      | ((with_reducible refine wl_at (o := ⟨_, .load _ _, _, _, _, _⟩) ?_)
         first
           | refine wl_loadK hK rfl rfl rfl (scalT (by decide)) (h := ?_)
           | refine wl_loadSK hK rfl rfl rfl (aggT (by decide)) (h := ?_)
           | refine wl_loadA0 rfl rfl rfl (scalT (by decide)) (h := ?_)
           | refine wl_loadA rfl rfl rfl (scalT (by decide)) (h := ?_)
           | refine wl_loadSA rfl rfl rfl (aggT (by decide)) (h := ?_))
      | (with_reducible refine atEnd_mk (by kernel_rfl) ?_))
    go_ret
    exact ⟨rfl, hK.mod⟩
set_option maxHeartbeats 2000000 in
theorem rf_load {c : ConfV} {p : Nat} {m : SM} {i : Int} {w : World} (h : Has w (rREF c p m)) : Calls Tryd.prog 60 #[.pointer (some ⟨p, 0, none⟩), .int .i64 i] w (Ret (.int .i64 (m.load i)) w) := by
  obtain ⟨v, rfl, hv, hg⟩ := Has.ref h
  have hK : Know w w none' [] (rRf c v) := Know.start (L := rRf c v) w hg
  simp only [rRf] at hK
  have hld := hv.loads
  unfold SM.load
  rw [← hld]
  clear h hv hg hld
  by_cases hi0 : i < 0
  · rw [if_neg (by omega)]
    go_enter Tryd.func60, Tryd.ntmps60
    go_wp2_with (first
      | go_big_skip
      | go_big_skip
      | ((with_reducible refine wl_at (o := ⟨_, .load _ _, _, _, _, _⟩) ?_)
         first
           | refine wl_loadK hK rfl rfl rfl (scalT (by decide)) (h := ?_)
           | refine wl_loadSK hK rfl rfl rfl (aggT (by decide)) (h := ?_)
           | refine wl_loadA0 rfl rfl rfl (scalT (by decide)) (h := ?_)
           | refine wl_loadA rfl rfl rfl (scalT (by decide)) (h := ?_)
           | refine wl_loadSA rfl rfl rfl (aggT (by decide)) (h := ?_))
      | (with_reducible refine atEnd_mk (by kernel_rfl) ?_))
    go_ret
    exact ⟨rfl, hK.mod⟩
  · obtain ⟨k, rfl⟩ : ∃ k : Nat, i = (k : Int) := ⟨i.toNat, by omega⟩
    by_cases h1 : k < v.loads.l.length
    · have hu : v.loads.l[k]? = some (v.loads.l.getD k 0) := by rw [List.getD_eq_getElem?_getD, List.getElem?_eq_getElem (by omega)]; rfl
      rw [if_pos (by omega), Int.toNat_natCast]
      generalize v.loads.l.getD k 0 = z at hu ⊢
      have HU := Lib.hid hu
      have e1 : decide (v.loads.l.length ≤ k) = false := decide_eq_false (by omega)
      have e2 : decide ((v.loads.l.length : Int) ≤ (k : Int)) = false := decide_eq_false (by omega)
      clear hu
      go_enter Tryd.func60, Tryd.ntmps60
      go_wp2_with (first
        | ((with_reducible refine wl_at (o := ⟨some 21, _, _, _, _, _⟩) ?_); go_must (refine wl_ixK (xs := v.loads.l) (u := z) hK rfl rfl rfl rfl intTy.und intTy.size (hu := HU) (h := ?_); intro b21 k21 hat21))
        | go_big_skip
        | go_big_skip
        | ((with_reducible refine wl_at (o := ⟨_, .load _ _, _, _, _, _⟩) ?_)
           first
             | refine wl_loadK hK rfl rfl rfl (scalT (by decide)) (h := ?_)
             | refine wl_loadSK hK rfl rfl rfl (aggT (by decide)) (h := ?_)
             | refine wl_loadA0 rfl rfl rfl (scalT (by decide)) (h := ?_)
             | refine wl_loadA rfl rfl rfl (scalT (by decide)) (h := ?_)
             | refine wl_loadSA rfl rfl rfl (aggT (by decide)) (h := ?_))
        | (with_reducible refine atEnd_mk (by kernel_rfl) ?_))
      go_ret
      exact ⟨rfl, hK.mod⟩
    · rw [if_neg (by omega)]
      have e1 : decide (v.loads.l.length ≤ k) = true := decide_eq_true (by omega)
      have e2 : decide ((v.loads.l.length : Int) ≤ (k : Int)) = true := decide_eq_true (by omega)
      go_enter Tryd.func60, Tryd.ntmps60
      go_wp2_with (first
        | go_big_skip
        | go_big_skip
        | ((with_reducible refine wl_at (o := ⟨_, .load _ _, _, _, _, _⟩) ?_)
           first
             | refine wl_loadK hK rfl rfl rfl (scalT (by decide)) (h := ?_)
             | refine wl_loadSK hK rfl rfl rfl (aggT (by decide)) (h := ?_)
             | refine wl_loadA0 rfl rfl rfl (scalT (by decide)) (h := ?_)
             | refine wl_loadA rfl rfl rfl (scalT (by decide)) (h := ?_)
             | refine wl_loadSA rfl rfl rfl (aggT (by decide)) (h := ?_))
        | (with_reducible refine atEnd_mk (by kernel_rfl) ?_))
      go_ret
      exact ⟨rfl, hK.mod⟩
end Go.Proofs.YtcklkojggpfbnaaDoor
