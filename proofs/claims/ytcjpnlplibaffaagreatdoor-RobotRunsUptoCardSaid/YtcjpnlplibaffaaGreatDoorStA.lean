/- Texts of mine that belong together: Cp1, Cp2, Fr. -/
import Derived.Test.YtcjpnlplibaffaaGreatDoorRefA
import Derived.Test.YtcjpnlplibaffaaGreatDoorSkB
set_option linter.all false
/- What the laws share: SameInts, CopyInts, Small. -/
namespace Go.Proofs.YtcjpnlplibaffaaGreatDoor
open Go Go.Sk Go.RowKit
set_option maxRecDepth 100000

set_option maxHeartbeats 400000 in
theorem copyInts_calls {s : Sv Int} {w : World} (h : Rd w elInt s.val s.l) (hl : s.l.length ≤ 1048576) : Calls Tryz.prog 56 #[s.val] w fun e w' => ∃ ad n cap, e = .returned (.slice ad n cap) ∧ n = s.l.length ∧ Turn (rOw 3 elInt (.slice ad n cap) s.l) w w' none' := by
  have hK := Know.start (L := [rRd elInt s.val s.l]) w (by simpa using h.has)
  go_enter Tryz.func56, Tryz.ntmps56
  go_wp2_with (first
    | ((with_reducible refine wl_at (o := ⟨some 4, _, _, _, _, _⟩) ?_)
       go_must (refine wl_appN (ys := s.l) hK intTy rfl rfl rfl rfl hK.rd (by unfold maxLen; omega) (by omega) ?_; clear hK; intro ad N cap w4 hN hK; replace hN := Lib.hid hN))
    | go_big_skip
    | ((with_reducible refine wl_at (o := ⟨_, .load _ _, _, _, _, _⟩) ?_)
       first
         | refine wl_loadK hK rfl rfl rfl (scalT (by decide)) (h := ?_)
         | refine wl_loadSK hK rfl rfl rfl (aggT (by decide)) (h := ?_)
         | refine wl_loadA0 rfl rfl rfl (scalT (by decide)) (h := ?_)
         | refine wl_loadA rfl rfl rfl (scalT (by decide)) (h := ?_)
         | refine wl_loadSA rfl rfl rfl (aggT (by decide)) (h := ?_))
    | (with_reducible refine atEnd_mk (by kernel_rfl) ?_))
  go_ret
  exact ⟨ad, N, cap, rfl, hN.out, hK.turn⟩

/-- No greater than is played. -/
def smallB (c : ConfP) : Prop := c.w ≤ 6 ∧ c.h ≤ 6 ∧ c.budget ≤ 4000 ∧ c.unit ≤ 100 ∧ c.turn ≤ 200 ∧ c.hoist ≤ 200 ∧ c.robots.length ≤ 4 ∧ MayP c
open Classical in
set_option maxHeartbeats 8000000 in
theorem small_calls {c : ConfV} {w : World} (hc : Has w (rConf c)) (hz : Sized c) : Calls Tryz.prog 8 #[.agg c.cells.toArray] w (Ret (.bool (decide (smallB c.p))) w) := by
  have hK := Know.start (L := [rConf c]) w (by simpa using hc)
  have km := Lib.hid (fun (W : World) (h : Has W (rConf c)) => ref_may h hz)
  obtain ⟨q, hq⟩ : ∃ q, q = decide (smallB c.p) := ⟨_, rfl⟩
  rw [← hq]
  have HQ := Lib.hid hq
  clear hq
  obtain ⟨m, hm⟩ : ∃ m, m = mayB c.p := ⟨_, rfl⟩
  rw [← hm] at km
  have HM := Lib.hid hm
  clear hm
  have hbr := hz.robots
  have hcs : 6 < c.w ∨ (c.w ≤ 6 ∧ 6 < c.h) ∨ (c.w ≤ 6 ∧ c.h ≤ 6 ∧ 4000 < c.budget) ∨ (c.w ≤ 6 ∧ c.h ≤ 6 ∧ c.budget ≤ 4000 ∧ 100 < c.unit) ∨ (c.w ≤ 6 ∧ c.h ≤ 6 ∧ c.budget ≤ 4000 ∧ c.unit ≤ 100 ∧ 200 < c.turn)
      ∨ (c.w ≤ 6 ∧ c.h ≤ 6 ∧ c.budget ≤ 4000 ∧ c.unit ≤ 100 ∧ c.turn ≤ 200 ∧ 200 < c.hoist) ∨ (c.w ≤ 6 ∧ c.h ≤ 6 ∧ c.budget ≤ 4000 ∧ c.unit ≤ 100 ∧ c.turn ≤ 200 ∧ c.hoist ≤ 200 ∧ 4 < c.robots.l.length)
      ∨ (c.w ≤ 6 ∧ c.h ≤ 6 ∧ c.budget ≤ 4000 ∧ c.unit ≤ 100 ∧ c.turn ≤ 200 ∧ c.hoist ≤ 200 ∧ c.robots.l.length ≤ 4) := by omega
  have no : Hid (¬ (c.w ≤ 6 ∧ c.h ≤ 6 ∧ c.budget ≤ 4000 ∧ c.unit ≤ 100 ∧ c.turn ≤ 200 ∧ c.hoist ≤ 200 ∧ c.robots.l.length ≤ 4) → q = false) := fun h => by
    rw [HQ.out]
    exact decide_eq_false fun hs => h ⟨hs.1, hs.2.1, hs.2.2.1, hs.2.2.2.1, hs.2.2.2.2.1, hs.2.2.2.2.2.1, hs.2.2.2.2.2.2.1⟩
  have yes : Hid ((c.w ≤ 6 ∧ c.h ≤ 6 ∧ c.budget ≤ 4000 ∧ c.unit ≤ 100 ∧ c.turn ≤ 200 ∧ c.hoist ≤ 200 ∧ c.robots.l.length ≤ 4) → q = m) := fun h => by
    rw [HQ.out, HM.out]
    obtain ⟨h1, h2, h3, h4, h5, h6, h7⟩ := h
    by_cases hm : MayP c.p
    · rw [mayB_true.2 hm]
      exact decide_eq_true ⟨h1, h2, h3, h4, h5, h6, h7, hm⟩
    · rw [mayB_false hm]
      exact decide_eq_false fun hs => hm hs.2.2.2.2.2.2.2
  rcases hcs with h1 | ⟨h1, h2⟩ | ⟨h1, h2, h3⟩ | ⟨h1, h2, h3, h4⟩ | ⟨h1, h2, h3, h4, h5⟩ | ⟨h1, h2, h3, h4, h5, h6⟩ | ⟨h1, h2, h3, h4, h5, h6, h7⟩ | ⟨h1, h2, h3, h4, h5, h6, h7⟩
  all_goals
    try (have d1 : decide (c.w ≤ 6) = false := decide_eq_false (by omega))
    try (have d2 : decide (c.h ≤ 6) = false := decide_eq_false (by omega))
    try (have d3 : decide (c.budget ≤ 4000) = false := decide_eq_false (by omega))
    try (have d4 : decide (c.unit ≤ 100) = false := decide_eq_false (by omega))
    try (have d5 : decide (c.turn ≤ 200) = false := decide_eq_false (by omega))
    try (have d6 : decide (c.hoist ≤ 200) = false := decide_eq_false (by omega))
    try (have d7 : decide ((c.robots.l.length : Int) ≤ 4) = false := decide_eq_false (by omega))
    try (have d8 : decide ((c.robots.l.length : Int) ≤ 4) = true := decide_eq_true (by omega))
    go_enter Tryz.func8, Tryz.ntmps8
    go_wp2_with (first
      | ((with_reducible refine wl_at (o := ⟨some 1, .box _ _, _, _, _, _⟩) ?_)
         go_must (refine wl_boxK hK rfl rfl rfl rfl ?_; clear hK; intro w1 b1 hK))
      | (go_at_call 24; go_must (refine (hK.quiet (km.out _ (hK.has (by simp)))).mono ?_; clear hK; rintro e w' ⟨rfl, hK⟩))
      | go_big_skip
      | ((with_reducible refine wl_at (o := ⟨_, .load _ _, _, _, _, _⟩) ?_)
         first
           | refine wl_loadK hK rfl rfl rfl (scalT (by decide)) (h := ?_)
           | refine wl_loadSK hK rfl rfl rfl (aggT (by decide)) (h := ?_)
           | refine wl_loadA0 rfl rfl rfl (scalT (by decide)) (h := ?_)
           | refine wl_loadA rfl rfl rfl (scalT (by decide)) (h := ?_)
           | refine wl_loadSA rfl rfl rfl (aggT (by decide)) (h := ?_))
      | (with_reducible refine atEnd_mk (by kernel_rfl) ?_))
    go_ret
    refine ⟨?_, hK.mod⟩
    first
      | (rw [no.out (by omega)]; rfl)
      | (rw [yes.out ⟨by omega, by omega, by omega, by omega, by omega, by omega, by omega⟩]; rfl)
end Go.Proofs.YtcjpnlplibaffaaGreatDoor

/- What the laws share: CopyStacks, CopyConf. -/
namespace Go.Proofs.YtcjpnlplibaffaaGreatDoor
open Go Go.Sk Go.RowKit
set_option maxRecDepth 100000

/-- A stack's bins, one's own. -/
def binRes (s : StackV) : Res := rOw 3 elInt s.bins.val s.bins.l
/-- The lists are no longer than what a statement speaks of. -/
structure Upto (c : ConfV) : Prop where
  blocked : c.blocked.l.length ≤ 1048576
  ports : c.ports.l.length ≤ 1048576
  robots : c.robots.l.length ≤ 1048576
  stacks : c.stacks.l.length ≤ 1048576
  bins : ∀ x ∈ c.stacks.l, x.bins.l.length ≤ 1048576

set_option maxHeartbeats 2000000 in
theorem copyStacks_calls {s : Sv StackV} {w : World} (h : Has w (rStacks s)) (hl : s.l.length ≤ 1048576) (hb : ∀ x ∈ s.l, x.bins.l.length ≤ 1048576) : Calls Tryz.prog 31 #[s.val] w fun e w' =>
    ∃ t : Sv StackV, e = .returned t.val ∧ t.l.map StackV.p = s.l.map StackV.p ∧ Turns [rMany (t.l.map binRes), rOw 119 elStack t.val t.l] w w' none' := by
  have hK : Know w w none' [] [rRd elStack s.val s.l, rStacks s] := (Know.start (L := [rStacks s]) w (by simpa using h)).part List.mem_cons_self fun w S h => rTwo_left w S h
  go_enter Tryz.func31, Tryz.ntmps31
  go_wp2_with (first
    | go_big_skip
    | ((with_reducible refine wl_at (o := ⟨_, .load _ _, _, _, _, _⟩) ?_)
       first
         | refine wl_loadK hK rfl rfl rfl (scalT (by decide)) (h := ?_)
         | refine wl_loadSK hK rfl rfl rfl (aggT (by decide)) (h := ?_)
         | refine wl_loadA0 rfl rfl rfl (scalT (by decide)) (h := ?_)
         | refine wl_loadA rfl rfl rfl (scalT (by decide)) (h := ?_)
         | refine wl_loadSA rfl rfl rfl (aggT (by decide)) (h := ?_))
    | (with_reducible refine atEnd_mk (by kernel_rfl) ?_))
  replace hK := (hK.nil 119 elStack).push1 (r := rMany []) ⟨Mod.refl _ _, fun _ => False, rMany_p.2 (fun _ h => h), fun _ h => h.elim⟩
  go_loopw [4, 3] (fun i m wr => ∃ (j : Nat) (ls : List StackV) (ad : Option Addr) (N cap : Nat), i = .int .i64 j ∧ m = .slice ad N cap ∧ j ≤ s.l.length ∧ N = j ∧ Hid (ls.length = j) ∧ Hid (ls.map StackV.p = (s.l.take j).map StackV.p) ∧ Know w wr none' [rMany (ls.map binRes), rOw 119 elStack (.slice ad N cap) ls] [rRd elStack s.val s.l, rStacks s]) (fun i _ _ => s.l.length - (intOf i).toNat)
  case atStart => exact ⟨0, [], none, 0, 0, rfl, rfl, Nat.zero_le _, rfl, rfl, rfl, hK⟩
  case round =>
    obtain ⟨j, ls, ad, N, cap, rfl, rfl, hj, rfl, hN, hP, hK⟩ := hrel
    by_cases hlt : N < s.l.length
    · obtain ⟨u, hu⟩ : ∃ u, s.l[N]? = some u := ⟨_, List.getElem?_eq_getElem hlt⟩
      have HU := Lib.hid hu
      have HM := Lib.hid (List.mem_of_getElem? hu)
      have hub := hb u (List.mem_of_getElem? hu)
      have hlsl : ls.length ≤ 1048576 := by rw [hN.out]; omega
      clear hu
      go_wp2_with (first
        | ((with_reducible refine wp_region_stableK (id := 5) hK [5] [rRd elStack s.val s.l] (by kernel_rfl) (by kernel_rfl) (by simp) (by kernel_rfl) ?_); clear hK; intro w' hK)
        | (with_reducible refine wpC_of ?_)
        | (with_reducible refine atEndC (hK.cls (by simp)) ?_)
        | ((with_reducible refine wpC_end' ?_); refine wpC_nil ⟨by kernel_rfl, stays_loadSE [.int .i64 u.at_.x, .int .i64 u.at_.y] rfl rfl rfl rfl (aggT (by decide)) hel14 (by simp) rfl rfl rfl stays_nil, ?_⟩)
        | ((with_reducible refine wl_at (o := ⟨some 14, _, _, _, _, _⟩) ?_); go_must (refine wl_ixE (u := u) hK rfl rfl rfl rfl stackTy.und stackTy.size (hu := HU) (h := ?_); intro b14 k14 hat14 hel14))
        | ((with_reducible refine wl_at (o := ⟨some 19, _, _, _, _, _⟩) ?_); go_must (refine wl_ixK (u := u) hK rfl rfl rfl rfl stackTy.und stackTy.size (xs := s.l) (hu := HU) (h := ?_); intro b19 k19 hat19))
        | ((with_reducible refine wl_at (o := ⟨some 16, _, _, _, _, _⟩) ?_); go_must (refine wl_loadP0 [.int .i64 u.at_.x, .int .i64 u.at_.y] rfl rfl rfl (aggT (by decide)) (hat := hat14) (h := ?_)))
        | (go_at_call 56; go_must (refine (copyInts_calls (s := u.bins) (Has.bins (hK.has (by simp)) u HM.out) hub).mono ?_; rintro e w' ⟨adc, nc, capc, rfl, rfl, hT⟩; replace hK := hK.push1 hT; clear hT))
        | ((with_reducible refine wl_at (o := ⟨some 24, _, _, _, _, _⟩) ?_); go_must (refine wl_buildK 119 elStack [(⟨u.at_, ⟨adc, u.bins.l, capc⟩⟩ : StackV)] hK rfl rfl (fun W => by kernel_rfl) rfl (by decide) ?_; clear hK; intro adb w24 hK))
        | ((with_reducible refine wl_at (o := ⟨some 25, _, _, _, _, _⟩) ?_)
           go_must (refine wl_appK (xs := ls) (ys := [(⟨u.at_, ⟨adc, u.bins.l, capc⟩⟩ : StackV)]) hK stackTy rfl rfl rfl rfl hK.rd (by simp; unfold maxLen; omega) (by simp; omega) (h := ?_); clear hK; intro ad2 N2 cap2 w25 hN2 hK; replace hN2 := Lib.hid hN2; simp only [List.set_cons_zero, List.set_cons_succ] at hK))
        | go_big_skip
        | ((with_reducible refine wl_at (o := ⟨_, .load _ _, _, _, _, _⟩) ?_)
           first
             | refine wl_loadK hK rfl rfl rfl (scalT (by decide)) (h := ?_)
             | refine wl_loadSK hK rfl rfl rfl (aggT (by decide)) (h := ?_)
             | refine wl_loadA0 rfl rfl rfl (scalT (by decide)) (h := ?_)
             | refine wl_loadA rfl rfl rfl (scalT (by decide)) (h := ?_)
             | refine wl_loadSA rfl rfl rfl (aggT (by decide)) (h := ?_))
        | (with_reducible refine atEnd_mk (by kernel_rfl) ?_))
      go_roundw
      case rel =>
        have hK3 := (hK.sub (.cons _ (List.Sublist.refl _)))
        have hK5 := hK3.putLast
        refine ⟨N + 1, ls ++ [⟨u.at_, ⟨adc, u.bins.l, capc⟩⟩], ad2, N2, cap2, by go_num, rfl, by omega, by rw [hN2.out, List.length_append, hN.out]; rfl, by show _ = _; rw [List.length_append, hN.out]; rfl, ?_, ?_⟩
        · show _ = _
          rw [List.map_append, hP.out, List.take_add_one, HU.out, List.map_append]
          rfl
        · rw [List.map_append]
          exact hK5
      case measure => simp [intOf]; omega
    · obtain rfl : N = s.l.length := by omega
      go_wp2_with (first
        | go_big_skip
        | ((with_reducible refine wl_at (o := ⟨_, .load _ _, _, _, _, _⟩) ?_)
           first
             | refine wl_loadK hK rfl rfl rfl (scalT (by decide)) (h := ?_)
             | refine wl_loadSK hK rfl rfl rfl (aggT (by decide)) (h := ?_)
             | refine wl_loadA0 rfl rfl rfl (scalT (by decide)) (h := ?_)
             | refine wl_loadA rfl rfl rfl (scalT (by decide)) (h := ?_)
             | refine wl_loadSA rfl rfl rfl (aggT (by decide)) (h := ?_))
        | (with_reducible refine atEnd_mk (by kernel_rfl) ?_))
      go_ret
      have hle := hN.out
      refine ⟨⟨ad, ls, cap⟩, by show _ = Ending.returned (.slice ad ls.length cap); rw [hle]; rfl, ?_, ?_⟩
      · have := hP.out
        rw [List.take_length] at this
        exact this
      · show Turns [_, rOw _ elStack (.slice ad ls.length cap) ls] _ _ _
        rw [hle]
        exact hK.turns
def confZ : List Value := [.int .i64 0, .int .i64 0, .int .i64 0, .slice none 0 0, .slice none 0 0, .slice none 0 0, .slice none 0 0, .int .i64 0, .int .i64 0, .int .i64 0, .int .i64 0, .int .i64 0, .int .i64 0, .int .i64 0, .int .i64 0, .bool false]
/-- A config in memory of one's own. -/
def rOwnConf (c : ConfV) : List Res := [rMany (c.stacks.l.map binRes), rOw 119 elStack c.stacks.val c.stacks.l, rOw 39 elPose c.robots.val c.robots.l, rOw 37 elCell c.ports.val c.ports.l, rOw 37 elCell c.blocked.val c.blocked.l]
theorem conf_one (c : ConfV) : ∀ v ∈ c.cells, v.oneCell' = true := by
  intro v hv
  simp only [ConfV.cells, List.mem_cons, List.not_mem_nil, or_false] at hv
  rcases hv with rfl | rfl | rfl | rfl | rfl | rfl | rfl | rfl | rfl | rfl | rfl | rfl | rfl | rfl | rfl | rfl <;> rfl

set_option maxHeartbeats 2000000 in
theorem copyConf_calls {c : ConfV} {w : World} (h : Has w (rConf c)) (hu : Upto c) : Calls Tryz.prog 11 #[.agg c.cells.toArray] w fun e w' => ∃ d : ConfV, e = .returned (.agg d.cells.toArray) ∧ d.p = c.p ∧ Turns (rOwnConf d) w w' none' := by
  have hK := ((Know.start (L := [rConf c]) w (by simpa using h)).conf (c := c) (by simp)).subL (L' := [rStacks c.stacks, rRd elCell c.blocked.val c.blocked.l, rRd elCell c.ports.val c.ports.l, rRd elPose c.robots.val c.robots.l]) (by simp)
  have u1 := hu.blocked
  have u2 := hu.ports
  have u3 := hu.robots
  go_enter Tryz.func11, Tryz.ntmps11
  go_wp2_with (first
    | ((with_reducible refine wl_at (o := ⟨some 1, .box _ _, _, _, _, _⟩) ?_)
       go_must (refine wl_boxK hK rfl rfl rfl rfl ?_; clear hK; intro w1 b1 hK))
    | ((with_reducible refine wl_at (o := ⟨some 2, .alloc _, _, _, _, _⟩) ?_)
       go_must (refine wl_allocK (z := .agg (confZ).toArray) (zs := confZ) hK rfl rfl (by kernel_rfl) rfl ?_; clear hK; intro w2 b2 hK))
    | ((with_reducible refine wl_at (o := ⟨some 5, _, _, _, _, _⟩) ?_)
       go_must (refine wl_appN (ys := c.blocked.l) hK cellTy rfl rfl rfl rfl hK.rd (by unfold maxLen; omega) (by omega) ?_; clear hK; intro ad1 N1 cap1 w5 hN hK; subst hN))
    | ((with_reducible refine wl_at (o := ⟨some 9, _, _, _, _, _⟩) ?_)
       go_must (refine wl_appN (ys := c.ports.l) hK cellTy rfl rfl rfl rfl (hK.has (r := rRd elCell c.ports.val c.ports.l) (by simp)).rd (by unfold maxLen; omega) (by omega) ?_; clear hK; intro ad2 N2 cap2 w9 hN hK; subst hN))
    | ((with_reducible refine wl_at (o := ⟨some 13, _, _, _, _, _⟩) ?_)
       go_must (refine wl_appN (ys := c.robots.l) hK poseTy rfl rfl rfl rfl (hK.has (r := rRd elPose c.robots.val c.robots.l) (by simp)).rd (by unfold maxLen; omega) (by omega) ?_; clear hK; intro ad3 N3 cap3 w13 hN hK; subst hN))
    | (go_at_call 31; go_must (refine (copyStacks_calls (s := c.stacks) (hK.has (by simp)) hu.stacks hu.bins).mono ?_; rintro e w' ⟨ts, rfl, hts, hT⟩; replace hK := hK.push hT; have HTS := Lib.hid hts; clear hts hT))
    | ((with_reducible refine wl_at (o := ⟨none, .store 22 _ (.tmp 5), _, _, _, _⟩) ?_)
       go_must (refine wl_storeK hK rfl rfl rfl rfl (sizT (by decide)) rfl (hk := by simp [ConfV.cells]) (h := ?_); clear hK; intro w' hK; replace hK : Know w w' none' ([rOw 37 elCell (.slice ad1 c.blocked.l.length cap1) c.blocked.l, rBlk b2 confZ 26, rBlk b1 ({ c with blocked := ⟨ad1, c.blocked.l, cap1⟩ } : ConfV).cells 26]) [rStacks c.stacks, rRd elCell c.blocked.val c.blocked.l, rRd elCell c.ports.val c.ports.l, rRd elPose c.robots.val c.robots.l] := hK))
    | ((with_reducible refine wl_at (o := ⟨none, .store 22 _ (.tmp 9), _, _, _, _⟩) ?_)
       go_must (refine wl_storeK hK rfl rfl rfl rfl (sizT (by decide)) rfl (hk := by simp [ConfV.cells]) (h := ?_); clear hK; intro w' hK; replace hK : Know w w' none' ([rOw 37 elCell (.slice ad2 c.ports.l.length cap2) c.ports.l, rOw 37 elCell (.slice ad1 c.blocked.l.length cap1) c.blocked.l, rBlk b2 confZ 26, rBlk b1 ({ c with blocked := ⟨ad1, c.blocked.l, cap1⟩, ports := ⟨ad2, c.ports.l, cap2⟩ } : ConfV).cells 26]) [rStacks c.stacks, rRd elCell c.blocked.val c.blocked.l, rRd elCell c.ports.val c.ports.l, rRd elPose c.robots.val c.robots.l] := hK))
    | ((with_reducible refine wl_at (o := ⟨none, .store 23 _ (.tmp 13), _, _, _, _⟩) ?_)
       go_must (refine wl_storeK hK rfl rfl rfl rfl (sizT (by decide)) rfl (hk := by simp [ConfV.cells]) (h := ?_); clear hK; intro w' hK; replace hK : Know w w' none' ([rOw 39 elPose (.slice ad3 c.robots.l.length cap3) c.robots.l, rOw 37 elCell (.slice ad2 c.ports.l.length cap2) c.ports.l, rOw 37 elCell (.slice ad1 c.blocked.l.length cap1) c.blocked.l, rBlk b2 confZ 26, rBlk b1 ({ c with blocked := ⟨ad1, c.blocked.l, cap1⟩, ports := ⟨ad2, c.ports.l, cap2⟩, robots := ⟨ad3, c.robots.l, cap3⟩ } : ConfV).cells 26]) [rStacks c.stacks, rRd elCell c.blocked.val c.blocked.l, rRd elCell c.ports.val c.ports.l, rRd elPose c.robots.val c.robots.l] := hK))
    | ((with_reducible refine wl_at (o := ⟨none, .store 24 _ (.tmp 17), _, _, _, _⟩) ?_)
       go_must (refine wl_storeK hK rfl rfl rfl rfl (sizT (by decide)) rfl (hk := by simp [ConfV.cells]) (h := ?_); clear hK; intro w' hK; replace hK : Know w w' none' ([rMany (ts.l.map binRes), rOw 119 elStack ts.val ts.l, rOw 39 elPose (.slice ad3 c.robots.l.length cap3) c.robots.l, rOw 37 elCell (.slice ad2 c.ports.l.length cap2) c.ports.l, rOw 37 elCell (.slice ad1 c.blocked.l.length cap1) c.blocked.l, rBlk b2 confZ 26, rBlk b1 ({ c with blocked := ⟨ad1, c.blocked.l, cap1⟩, ports := ⟨ad2, c.ports.l, cap2⟩, robots := ⟨ad3, c.robots.l, cap3⟩, stacks := ts } : ConfV).cells 26]) [rStacks c.stacks, rRd elCell c.blocked.val c.blocked.l, rRd elCell c.ports.val c.ports.l, rRd elPose c.robots.val c.robots.l] := hK))
    | ((with_reducible refine wl_at (o := ⟨none, .store 26 _ _, _, _, _, _⟩) ?_)
       go_must (refine wl_storeWK (vs := ({ c with blocked := ⟨ad1, c.blocked.l, cap1⟩, ports := ⟨ad2, c.ports.l, cap2⟩, robots := ⟨ad3, c.robots.l, cap3⟩, stacks := ts } : ConfV).cells) hK rfl rfl rfl rfl (aggS (by decide)) (conf_one _) (h := ?_); clear hK; intro w' hK; simp only [List.set_cons_zero, List.set_cons_succ] at hK))
    | go_big_skip
    | ((with_reducible refine wl_at (o := ⟨_, .load _ _, _, _, _, _⟩) ?_)
       first
         | refine wl_loadK hK rfl rfl rfl (scalT (by decide)) (h := ?_)
         | refine wl_loadSK hK rfl rfl rfl (aggT (by decide)) (h := ?_)
         | refine wl_loadA0 rfl rfl rfl (scalT (by decide)) (h := ?_)
         | refine wl_loadA rfl rfl rfl (scalT (by decide)) (h := ?_)
         | refine wl_loadSA rfl rfl rfl (aggT (by decide)) (h := ?_))
    | (with_reducible refine atEnd_mk (by kernel_rfl) ?_))
  refine bodyPost_ret (res_cellS rfl _ rfl (by kernel_rfl) rfl (hK.blk (b := b2) (cs := ({ c with blocked := ⟨ad1, c.blocked.l, cap1⟩, ports := ⟨ad2, c.ports.l, cap2⟩, robots := ⟨ad3, c.robots.l, cap3⟩, stacks := ts } : ConfV).cells)).at0) rfl ⟨({ c with blocked := ⟨ad1, c.blocked.l, cap1⟩, ports := ⟨ad2, c.ports.l, cap2⟩, robots := ⟨ad3, c.robots.l, cap3⟩, stacks := ts } : ConfV), rfl, ?_, (hK.sub (M' := rOwnConf ({ c with blocked := ⟨ad1, c.blocked.l, cap1⟩, ports := ⟨ad2, c.ports.l, cap2⟩, robots := ⟨ad3, c.robots.l, cap3⟩, stacks := ts } : ConfV)) (.cons_cons _ (.cons_cons _ (.cons_cons _ (.cons_cons _ (.cons_cons _ (.cons _ (.cons _ .slnil)))))))).turns⟩
  show ConfP.mk _ _ _ _ _ _ _ _ _ _ _ _ _ _ _ _ = ConfP.mk _ _ _ _ _ _ _ _ _ _ _ _ _ _ _ _
  rw [HTS.out]
end Go.Proofs.YtcjpnlplibaffaaGreatDoor

/- What the laws share: a config's copy; Small, May. -/
namespace Go.Proofs.YtcjpnlplibaffaaGreatDoor
open Go Go.Sk Go.RowKit
set_option maxRecDepth 100000

theorem rMany_has {W : World} {rs : List Res} (h : Has W (rMany rs)) : ∀ r ∈ rs, Has W r := by
  obtain ⟨S, h⟩ := h
  intro r hr
  exact (rMany_p.1 h).has hr
theorem stacks_has {t : Sv StackV} {w : World} (h1 : Has w (rMany (t.l.map binRes))) (h2 : Has w (rOw 119 elStack t.val t.l)) : Has w (rStacks t) := by
  unfold rStacks
  refine Has.two.2 ⟨h2.ord.has, Has.all.2 fun r hr => ?_⟩
  obtain ⟨x, hx, rfl⟩ := List.mem_map.1 hr
  have := rMany_has h1 (binRes x) (List.mem_map_of_mem hx)
  unfold binRes at this
  exact this.ord.has
/-- A config's copy. -/
def rDup (d : ConfV) : Res := rMany (rOwnConf d)
theorem Upto.sized {c : ConfV} (h : Upto c) : Sized c :=
  ⟨by have := h.blocked; omega, by have := h.ports; omega, by have := h.robots; omega, by have := h.stacks; omega, fun x hx => by have := h.bins x hx; omega⟩
theorem upto_p {c d : ConfV} (h : d.p = c.p) (hu : Upto c) : Upto d := by
  have h1 : d.blocked.l = c.blocked.l := congrArg ConfP.blocked h
  have h2 : d.ports.l = c.ports.l := congrArg ConfP.ports h
  have h3 : d.robots.l = c.robots.l := congrArg ConfP.robots h
  have h4 : d.stacks.l.map StackV.p = c.stacks.l.map StackV.p := congrArg ConfP.stacks h
  refine ⟨by rw [h1]; exact hu.blocked, by rw [h2]; exact hu.ports, by rw [h3]; exact hu.robots, ?_, fun x hx => ?_⟩
  · have := congrArg List.length h4
    rw [List.length_map, List.length_map] at this
    rw [this]; exact hu.stacks
  · have h5 : x.p ∈ c.stacks.l.map StackV.p := by rw [← h4]; exact List.mem_map_of_mem hx
    obtain ⟨y, hy, he⟩ := List.mem_map.1 h5
    have h6 : y.bins.l = x.bins.l := congrArg StackP.bins he
    rw [← h6]; exact hu.bins y hy
theorem dup_calls {c : ConfV} {w : World} (h : Has w (rConf c)) (hu : Upto c) : Calls Tryz.prog 11 #[.agg c.cells.toArray] w fun e w' => ∃ d : ConfV, e = .returned (.agg d.cells.toArray) ∧ d.p = c.p ∧ Turn (rDup d) w w' none' := by
  refine (copyConf_calls h hu).mono ?_
  rintro e w' ⟨d, rfl, hd, hm, S', k1, k2⟩
  exact ⟨d, rfl, hd, hm, S', rMany_p.2 k1, k2⟩
theorem dup_has {d : ConfV} {w : World} (h : Has w (rDup d)) : Has w (rConf d) := by
  have g := rMany_has h
  refine Has.all.2 fun r hr => ?_
  simp only [List.mem_cons, List.not_mem_nil, or_false] at hr
  rcases hr with rfl | rfl | rfl | rfl
  · exact (g (rOw 37 elCell d.blocked.val d.blocked.l) (by simp [rOwnConf])).ord.has
  · exact (g (rOw 37 elCell d.ports.val d.ports.l) (by simp [rOwnConf])).ord.has
  · exact (g (rOw 39 elPose d.robots.val d.robots.l) (by simp [rOwnConf])).ord.has
  · exact stacks_has (g _ (by simp [rOwnConf])) (g _ (by simp [rOwnConf]))
open Classical in
theorem kn_small {c : ConfV} {b : Bool} {w : World} (hb : decide (smallB c.p) = b) (hu : Upto c) (hc : Has w (rConf c)) : Calls Tryz.prog 8 #[.agg c.cells.toArray] w (Ret (.bool b) w) := by
  subst hb
  have := small_calls hc hu.sized
  exact this
theorem kn_may {c : ConfV} {b : Bool} {w : World} (hb : mayB c.p = b) (hu : Upto c) (hc : Has w (rConf c)) : Calls Tryz.prog 24 #[.agg c.cells.toArray] w (Ret (.bool b) w) := by
  subst hb
  exact ref_may hc hu.sized
end Go.Proofs.YtcjpnlplibaffaaGreatDoor
