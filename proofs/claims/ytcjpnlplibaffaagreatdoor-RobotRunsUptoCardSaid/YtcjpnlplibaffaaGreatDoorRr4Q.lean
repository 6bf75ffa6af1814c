/- Both robots, side by side: SameTeles, same, do. -/
import Derived.Test.YtcjpnlplibaffaaGreatDoorRr3Q
import Derived.Test.YtcjpnlplibaffaaGreatDoorRgC
import Derived.Test.YtcjpnlplibaffaaGreatDoorSkFloatQ
import Derived.Test.YtcjpnlplibaffaaGreatDoorSkRunQ
set_option linter.all false
namespace Go.Proofs.YtcjpnlplibaffaaGreatDoor
open Go Go.Sk Go.RowKit
set_option maxRecDepth 100000

theorem teleEqR : eqTy Tryz.prog 43 teleKs = true := by kernel_rfl
theorem teleTyR : SliceTy Tryz.prog 47 43 elTele.sz 152 (Tele.cells ⟨0, 0, 0, 0, mvZ, poseO, 0⟩) :=
  SliceTy.mk' (z := .agg (Tele.cells ⟨0, 0, 0, 0, mvZ, poseO, 0⟩).toArray) (by kernel_rfl) (by kernel_rfl) rfl rfl
theorem homeFitsR {c : ConfV} {u : Pose} (hm : MayP c.p) (h : c.robots.l[0]? = some u) : fitsB c.p u = true := hm.fits u (List.mem_of_getElem? h)

set_option maxHeartbeats 1000000 in
theorem same_teles {ad1 ad2 : Option Addr} {c1 c2 : Nat} {l : List Tele} {w : World} (h1 : Rd w elTele (.slice ad1 l.length c1) l) (h2 : Rd w elTele (.slice ad2 l.length c2) l) (hl : l.length ≤ 1000) : Calls Tryz.prog 49 #[.slice ad1 l.length c1, .slice ad2 l.length c2] w (Ret (.bool true) w) := by
  have hK : Know w w none' [] [rRd elTele (.slice ad1 l.length c1) l, rRd elTele (.slice ad2 l.length c2) l] := Know.start (L := [rRd elTele (.slice ad1 l.length c1) l, rRd elTele (.slice ad2 l.length c2) l]) w (by
    intro r hr
    simp only [List.mem_cons, List.not_mem_nil, or_false] at hr
    rcases hr with rfl | rfl
    · exact h1.has
    · exact h2.has)
  clear h1 h2
  obtain ⟨N, hN⟩ : ∃ N, l.length = N := ⟨_, rfl⟩
  rw [hN] at hK hl ⊢
  have HN := Lib.hid hN
  clear hN
  go_enter Tryz.func49, Tryz.ntmps49
  go_wp2_with (first
    | go_big_skip
    | ((with_reducible refine wl_at (o := ⟨_, .load _ _, _, _, _, _⟩) ?_)
       first
         | refine wl_loadK hK rfl rfl rfl (scalT (by decide)) (h := ?_)
         | refine wl_loadSK hK rfl rfl rfl (aggT (by decide)) (h := ?_)
         | refine wl_loadA0 rfl rfl rfl (scalT (by decide)) (h := ?_)
         | refine wl_loadA rfl rfl rfl (scalT (by decide)) (h := ?_)
         | refine wl_loadSA rfl rfl rfl (aggT (by decide)) (h := ?_))
    | (with_reducible refine atEnd_mk (by kernel_rfl) ?_))
  go_loopg [5] N (fun k i wr => ∃ (j : Nat), i = .int .i64 j ∧ k = N - j ∧ j ≤ N ∧ Know w wr none' [] [rRd elTele (.slice ad1 N c1) l, rRd elTele (.slice ad2 N c2) l])
  case atStart => exact ⟨0, rfl, rfl, by omega, hK⟩
  case round =>
    clear hK
    obtain ⟨j, rfl, rfl, hj, hK⟩ := hrel
    by_cases hlt : j < N
    · have hltI : (j : Int) < (N : Int) := by omega
      obtain ⟨u, hu⟩ : ∃ u, l[j]? = some u := ⟨_, List.getElem?_eq_getElem (by rw [HN.out]; exact hlt)⟩
      have HU := Lib.hid hu
      clear hu
      go_wp2_with (first
        | ((with_reducible refine wp_region_textK (id := 6) hK (by kernel_rfl) (by kernel_rfl) ?_); clear hK; intro w' hK)
        | ((with_reducible refine wl_at (o := ⟨some 19, _, _, _, _, _⟩) ?_); go_must (refine wl_ixK (i := j) (u := u) hK rfl rfl rfl rfl teleTyR.und teleTyR.size (xs := l) (hu := HU) (h := ?_); intro b19 k19 hat19))
        | ((with_reducible refine wl_at (o := ⟨some 23, _, _, _, _, _⟩) ?_); go_must (refine wl_ixK (i := j) (u := u) hK rfl rfl rfl rfl teleTyR.und teleTyR.size (xs := l) (hu := HU) (h := ?_); intro b23 k23 hat23))
        | ((with_reducible refine wl_at (o := ⟨some 20, _, _, _, _, _⟩) ?_); refine wl_loadSA rfl rfl rfl (aggT (by decide)) (hat := hat19) (h := ?_))
        | ((with_reducible refine wl_at (o := ⟨some 24, _, _, _, _, _⟩) ?_); refine wl_loadSA rfl rfl rfl (aggT (by decide)) (hat := hat23) (h := ?_))
        | ((with_reducible refine wl_at (o := ⟨some 25, _, _, _, _, _⟩) ?_); go_must (refine wl_neqS (xs := Tele.cells u) (ys := Tele.cells u) rfl rfl rfl rfl teleEqR (Tele.ks _) (Tele.ks _) ?_; rw [Tele.eq, decide_eq_true rfl]))
        | go_big_skip
        | ((with_reducible refine wl_at (o := ⟨_, .load _ _, _, _, _, _⟩) ?_)
           first
             | refine wl_loadK hK rfl rfl rfl (scalT (by decide)) (h := ?_)
             | refine wl_loadSK hK rfl rfl rfl (aggT (by decide)) (h := ?_)
             | refine wl_loadA0 rfl rfl rfl (scalT (by decide)) (h := ?_)
             | refine wl_loadA rfl rfl rfl (scalT (by decide)) (h := ?_)
             | refine wl_loadSA rfl rfl rfl (aggT (by decide)) (h := ?_))
        | (with_reducible refine atEnd_mk (by kernel_rfl) ?_))
      go_roundg (N - (j + 1))
      case measure => omega
      case rel => exact ⟨j + 1, by go_num, rfl, by omega, hK⟩
    · have hjN : j = N := by omega
      subst hjN
      go_wp2_with (first
        | go_big_skip
        | ((with_reducible refine wl_at (o := ⟨_, .load _ _, _, _, _, _⟩) ?_)
           first
             | refine wl_loadK hK rfl rfl rfl (scalT (by decide)) (h := ?_)
             | refine wl_loadSK hK rfl rfl rfl (aggT (by decide)) (h := ?_)
             | refine wl_loadA0 rfl rfl rfl (scalT (by decide)) (h := ?_)
             | refine wl_loadA rfl rfl rfl (scalT (by decide)) (h := ?_)
             | refine wl_loadSA rfl rfl rfl (aggT (by decide)) (h := ?_))
        | (with_reducible refine atEnd_mk (by kernel_rfl) ?_))
      go_ret
      exact ⟨rfl, hK.mod⟩

theorem R18.of_is (r : RM) (x : Junk) : r.pose = (R18.of r x).pose ∧ r.load = (R18.of r x).load ∧ r.epoch = (R18.of r x).epoch ∧ r.now = (R18.of r x).move ∧ r.under.isSome = (R18.of r x).under := by
  unfold R18.of RM.now
  cases r.under <;> exact ⟨rfl, rfl, rfl, rfl, rfl⟩
set_option maxHeartbeats 2000000 in
theorem same_calls {c : ConfV} {p q : Nat} {r : RM} {w : World} (h1 : Has w (rROB c.p 0 p r)) (h2 : Has w (rRF c q r)) : Calls Tryz.prog 25 #[.pointer (some ⟨p, 0, none⟩), .pointer (some ⟨q, 0, none⟩)] w (Ret (.bool true) w) := by
  obtain ⟨x, h2⟩ := Has.rf h2
  obtain ⟨v, hv⟩ : ∃ v, R18.of r x = v := ⟨_, rfl⟩
  have hi := R18.of_is r x
  have ht := of_tell r x
  rw [hv] at hi h2 ht
  obtain ⟨i1, i2, i3, i4, i5⟩ := hi
  have hK : Know w w none' [] [rROB c.p 0 p r, rBlk q (v.cells c) 70] := Know.start (L := [rROB c.p 0 p r, rBlk q (v.cells c) 70]) w (by
    intro r hr
    simp only [List.mem_cons, List.not_mem_nil, or_false] at hr
    rcases hr with rfl | rfl
    · exact h1
    · exact h2)
  clear h1 h2 hv
  have kPo := Lib.hid (fun (W : World) (h : Has W (rROB c.p 0 p r)) => (show Calls Tryz.prog 21 #[.pointer (some ⟨p, 0, none⟩)] W (Ret (.agg v.pose.cells.toArray) W) by have := rb_pose h; rwa [i1] at this))
  have kLo := Lib.hid (fun (W : World) (h : Has W (rROB c.p 0 p r)) => (show Calls Tryz.prog 23 #[.pointer (some ⟨p, 0, none⟩)] W (Ret (.int .i64 v.load) W) by have := rb_load h; rwa [i2] at this))
  have kEp := Lib.hid (fun (W : World) (h : Has W (rROB c.p 0 p r)) => (show Calls Tryz.prog 28 #[.pointer (some ⟨p, 0, none⟩)] W (Ret (.int .i64 v.epoch) W) by have := rb_epoch h; rwa [i3] at this))
  have kNo := Lib.hid (fun (W : World) (h : Has W (rROB c.p 0 p r)) => (show Calls Tryz.prog 22 #[.pointer (some ⟨p, 0, none⟩)] W (Ret (.tuple #[.agg v.move.cells.toArray, .bool v.under]) W) by have := rb_now h; rwa [i4, i5] at this))
  have kTl := Lib.hid (fun (W : World) (h : Has W (rROB c.p 0 p r)) => (show Calls Tryz.prog 18 #[.pointer (some ⟨p, 0, none⟩)] W fun e w' => ∃ ad, e = .returned (.slice ad 1 1) ∧ Turn (rOw 43 elTele (.slice ad 1 1) [v.tell]) W w' none' by have := rb_tell h; rwa [← ht] at this))
  have kTr := Lib.hid (fun (W : World) (h : Has W (rBlk q (v.cells c) 70)) => r18_tell h)
  have dU : (v.under == v.under) = true := by simp
  clear i1 i2 i3 i4 i5 ht
  obtain ⟨t, ht⟩ : ∃ t, v.tell = t := ⟨_, rfl⟩
  rw [ht] at kTl kTr
  clear ht
  go_enter Tryz.func25, Tryz.ntmps25
  go_wp2_with (first
    | ((with_reducible refine wl_at (o := ⟨some 5, .alloc _, _, _, _, _⟩) ?_)
       go_must (refine wl_allocK (z := .agg (moveZ).toArray) (zs := moveZ) hK rfl rfl (by kernel_rfl) rfl ?_; clear hK; intro w5 b5 hK))
    | ((with_reducible refine wl_at (o := ⟨none, .store 41 _ _, _, _, _, _⟩) ?_)
       go_must (refine wl_storeWK (vs := Go.Sk.Move.cells v.move) hK rfl rfl rfl rfl (aggS (by decide)) (move_one _) (h := ?_); clear hK; intro w' hK; simp only [List.set_cons_zero, List.set_cons_succ] at hK))
    | (go_at_call 21; go_must (refine (hK.quiet (kPo.out _ hK.lent)).mono ?_; clear hK; rintro e w' ⟨rfl, hK⟩))
    | (go_at_call 23; go_must (refine (hK.quiet (kLo.out _ hK.lent)).mono ?_; clear hK; rintro e w' ⟨rfl, hK⟩))
    | (go_at_call 28; go_must (refine (hK.quiet (kEp.out _ hK.lent)).mono ?_; clear hK; rintro e w' ⟨rfl, hK⟩))
    | (go_at_call 22; go_must (refine (hK.quiet (kNo.out _ hK.lent)).mono ?_; clear hK; rintro e w' ⟨rfl, hK⟩))
    | ((with_reducible refine wp_region_stableK (id := 2) hK [5, 13, 22] [rBlk q (v.cells c) 70] (by kernel_rfl) (by kernel_rfl) (by simp) (by kernel_rfl) ?_); clear hK; intro w' hK)
    | (with_reducible refine wpC_of ?_)
    | (with_reducible refine atEndC (hK.cls (by simp)) ?_)
    | ((with_reducible refine wpC_end' ?_); refine wpC_nil ⟨by kernel_rfl, stays_loadSP (Pose.cells v.pose) rfl rfl rfl rfl (aggT (by decide)) (rest := stays_loadK rfl rfl rfl rfl (scalT (by decide)) rfl (rest := stays_loadK rfl rfl rfl rfl (scalT (by decide)) rfl (rest := stays_nil))), ?_⟩)
    | ((with_reducible refine wl_at (o := ⟨some 17, .load _ _, _, _, _, _⟩) ?_); go_must (refine wl_loadPK (Pose.cells v.pose) hK rfl rfl rfl (aggT (by decide)) (h := ?_)))
    | ((with_reducible refine wl_at (o := ⟨some 18, _, _, _, _, _⟩) ?_); go_must (refine wl_eqlPs v.pose poseEq rfl rfl rfl rfl ?_))
    | ((with_reducible refine wl_at (o := ⟨some 42, .load _ _, _, _, _, _⟩) ?_); go_must (refine wl_loadPK (Go.Sk.Move.cells v.move) hK rfl rfl rfl (aggT (by decide)) (h := ?_)))
    | ((with_reducible refine wl_at (o := ⟨some 43, _, _, _, _, _⟩) ?_); go_must (refine wl_eqlMs v.move moveEq rfl rfl rfl rfl ?_))
    | (go_at_call 18; go_must (refine (kTl.out _ hK.lent).mono ?_; rintro e w' ⟨ad1, rfl, hT⟩; replace hK := hK.push1 hT; clear hT))
    | (go_at_call 50; go_must (refine (kTr.out _ hK.lent).mono ?_; rintro e w' ⟨ad2, rfl, hT⟩; replace hK := hK.push1 hT; clear hT))
    | (go_at_call 49; go_must (refine (hK.quiet (same_teles (ad1 := ad1) (ad2 := ad2) (c1 := 1) (c2 := 1) (l := [t]) hK.rd hK.rd (by simp))).mono ?_; clear hK; rintro e w' ⟨rfl, hK⟩))
    | go_big_skip
    | ((with_reducible refine wl_at (o := ⟨_, .load _ _, _, _, _, _⟩) ?_)
       first
         | refine wl_loadK hK rfl rfl rfl (scalT (by decide)) (h := ?_)
         | refine wl_loadSK hK rfl rfl rfl (aggT (by decide)) (h := ?_)
         | refine wl_loadA0 rfl rfl rfl (scalT (by decide)) (h := ?_)
         | refine wl_loadA rfl rfl rfl (scalT (by decide)) (h := ?_)
         | refine wl_loadSA rfl rfl rfl (aggT (by decide)) (h := ?_))
    | (with_reducible refine atEnd_mk (by kernel_rfl) ?_))
  go_ret
  exact ⟨rfl, hK.mod⟩

/-- What a call at both turns. -/
abbrev doPost (c : ConfV) (p q : Nat) (r : RM) (w : World) (S : Nat → Prop) (e : Ending) (w' : World) : Prop := e = .returned (.bool true) ∧ Turns [rROB c.p 0 p r, rRF c q r] w w' S

set_option maxHeartbeats 4000000 in
theorem do_hear {c : ConfV} {p q : Nat} {r : RM} {n : Int} {t : Tele} {w : World} {S : Nat → Prop} {v : RM × List Tele × Int} (hok : RMOk c.p r n) (hn : n ≤ 1000000000) (hz : Sized c) (hko : (kinOf c.p).Ok) (hmn : t.move.n ≤ 9223372036854775807) (hlt : t.kind = 1 → t.move.at_ < t.move.fin) (hv : r.hear c.p (kinOf c.p) 0 t = v) (h : Know w w S [rROB c.p 0 p r, rRF c q r] [rConf c, stepsR]) :
    Calls Tryz.prog 26 #[.pointer (some ⟨p, 0, none⟩), .pointer (some ⟨q, 0, none⟩), .agg (Op18.cells ⟨0, 0, t⟩).toArray] w (doPost c p q v.1 w S) := by
  have hK := h
  have kH := Lib.hid (fun (W : World) (S : Nat → Prop) (h : Know W W S [rROB c.p 0 p r] [stepsR]) => rb_hear hok hn hmn hv h)
  have kF := Lib.hid (fun (W : World) (S : Nat → Prop) (h : Know W W S [rRF c q r] [rConf c]) => rf_hear hok hn hz hko hlt hv h)
  have kPl := Lib.hid (fun (W : World) => show Calls Tryz.prog 16 #[.int .i64 0, .int .i64 8] W (Ret (.int .i64 0) W) from
    (Place_calls 0 8 W (by omega) (by omega)).mono fun e w' h => ⟨by rw [h.1]; rfl, by rw [h.2]; exact Mod.refl _ _⟩)
  have hl := hear_len hv
  obtain ⟨r', l, how⟩ := v
  simp only at hl kH kF ⊢
  have kS := Lib.hid (fun (W : World) (h1 : Has W (rROB c.p 0 p r')) (h2 : Has W (rRF c q r')) => same_calls h1 h2)
  have kT := Lib.hid (fun (W : World) (ad1 ad2 : Option Addr) (c1 c2 : Nat) (h1 : Rd W elTele (.slice ad1 l.length c1) l) (h2 : Rd W elTele (.slice ad2 l.length c2) l) => same_teles h1 h2 (by omega))
  clear h hok hv hlt hl
  go_enter Tryz.func26, Tryz.ntmps26
  go_wp2_with (first
    | ((with_reducible refine wl_at (o := ⟨some 5, .box _ _, _, _, _, _⟩) ?_); go_must (refine wl_boxK (zs := Op18.cells ⟨0, 0, t⟩) hK rfl rfl rfl rfl ?_; clear hK; intro w5 b5 hK))
    | (go_at_call 16; go_must (refine (hK.quiet (kPl.out _)).mono ?_; clear hK; rintro e w' ⟨rfl, hK⟩))
    | ((with_reducible refine wl_at (o := ⟨some 22, .load _ _, _, _, _, _⟩) ?_); go_must (refine wl_loadPK (Tele.cells t) hK rfl rfl rfl (aggT (by decide)) (h := ?_)))
    | ((with_reducible refine wl_at (o := ⟨some 29, .load _ _, _, _, _, _⟩) ?_); go_must (refine wl_loadPK (Tele.cells t) hK rfl rfl rfl (aggT (by decide)) (h := ?_)))
    | (go_at_call 15; go_must (refine (Know.hears hK (v := (r', l, how)) (by repeat (first | exact Ix.head | apply Ix.tail)) (by simp) (fun S hS => kH.out _ S hS)).mono ?_; clear hK; rintro e w' ⟨ad1, cp1, rfl, hK⟩; simp only [List.set_cons_zero, List.set_cons_succ] at hK))
    | (go_at_call 54; go_must (refine (hearsF hK (v := (r', l, how)) (by repeat (first | exact Ix.head | apply Ix.tail)) (by simp) (fun S hS => kF.out _ S hS)).mono ?_; clear hK; rintro e w' ⟨ad2, cp2, rfl, hK⟩; simp only [List.set_cons_zero, List.set_cons_succ] at hK))
    | (go_at_call 49; go_must (refine (hK.quiet (kT.out _ ad1 ad2 cp1 cp2 hK.rd hK.rd)).mono ?_; clear hK; rintro e w' ⟨rfl, hK⟩))
    | (go_at_call 25; go_must (refine (hK.quiet (kS.out _ hK.own hK.own)).mono ?_; clear hK; rintro e w' ⟨rfl, hK⟩))
    | go_big_skip
    | ((with_reducible refine wl_at (o := ⟨_, .load _ _, _, _, _, _⟩) ?_)
       first
         | refine wl_loadK hK rfl rfl rfl (scalT (by decide)) (h := ?_)
         | refine wl_loadSK hK rfl rfl rfl (aggT (by decide)) (h := ?_)
         | refine wl_loadA0 rfl rfl rfl (scalT (by decide)) (h := ?_)
         | refine wl_loadA rfl rfl rfl (scalT (by decide)) (h := ?_)
         | refine wl_loadSA rfl rfl rfl (aggT (by decide)) (h := ?_))
    | (with_reducible refine atEnd_mk (by kernel_rfl) ?_))
  go_ret
  exact ⟨rfl, (hK.sub (.cons _ (.cons _ (.cons _ (.cons_cons _ (.cons_cons _ .slnil)))))).turns⟩

set_option maxHeartbeats 4000000 in
theorem do_ticks {c : ConfV} {p q : Nat} {r : RM} {n x : Int} {m : Nat} {w : World} {S : Nat → Prop} (hrun : RunOk c.p r n) (hn : n ≤ 100000000) (hm : (m : Int) = 1 + x % 9) (h : Know w w S [rROB c.p 0 p r, rRF c q r] [rConf c, stepsR]) :
    Calls Tryz.prog 26 #[.pointer (some ⟨p, 0, none⟩), .pointer (some ⟨q, 0, none⟩), .agg (Op18.cells ⟨3, x, ⟨0, 0, 0, 0, mvZ, poseO, 0⟩⟩).toArray] w (doPost c p q (tickN m r) w S) := by
  have hK := h
  have hx0 : 0 ≤ x % 9 := Int.emod_nonneg x (by omega)
  have hx1 : x % 9 < 9 := Int.emod_lt_of_pos x (by omega)
  have kPl := Lib.hid (fun (W : World) => show Calls Tryz.prog 16 #[.int .i64 3, .int .i64 8] W (Ret (.int .i64 3) W) from
    (Place_calls 3 8 W (by omega) (by omega)).mono fun e w' h => ⟨by rw [h.1]; rfl, by rw [h.2]; exact Mod.refl _ _⟩)
  obtain ⟨y, hy⟩ : ∃ y, x % 9 = y := ⟨_, rfl⟩
  have kP9 := Lib.hid (fun (W : World) => show Calls Tryz.prog 16 #[.int .i64 x, .int .i64 9] W (Ret (.int .i64 y) W) from
    (Place_calls x 9 W (by omega) (by omega)).mono fun e w' h => ⟨by rw [h.1, hy], by rw [h.2]; exact Mod.refl _ _⟩)
  rw [hy] at hm hx0 hx1
  have HM := Lib.hid hm
  have HR := Lib.hid hrun
  have hm1 : m ≤ 9 := by omega
  have kS := Lib.hid (fun (W : World) (h1 : Has W (rROB c.p 0 p (tickN m r))) (h2 : Has W (rRF c q (tickN m r))) => same_calls h1 h2)
  clear h hy hm hrun
  go_enter Tryz.func26, Tryz.ntmps26
  go_wp2_with (first
    | ((with_reducible refine wl_at (o := ⟨some 5, .box _ _, _, _, _, _⟩) ?_); go_must (refine wl_boxK (zs := Op18.cells ⟨3, x, ⟨0, 0, 0, 0, mvZ, poseO, 0⟩⟩) hK rfl rfl rfl rfl ?_; clear hK; intro w5 b5 hK))
    | (go_at_call 16; go_must (refine (hK.quiet (kPl.out _)).mono ?_; clear hK; rintro e w' ⟨rfl, hK⟩))
    | go_big_skip
    | ((with_reducible refine wl_at (o := ⟨_, .load _ _, _, _, _, _⟩) ?_)
       first
         | refine wl_loadK hK rfl rfl rfl (scalT (by decide)) (h := ?_)
         | refine wl_loadSK hK rfl rfl rfl (aggT (by decide)) (h := ?_)
         | refine wl_loadA0 rfl rfl rfl (scalT (by decide)) (h := ?_)
         | refine wl_loadA rfl rfl rfl (scalT (by decide)) (h := ?_)
         | refine wl_loadSA rfl rfl rfl (aggT (by decide)) (h := ?_))
    | (with_reducible refine atEnd_mk (by kernel_rfl) ?_))
  go_loopg [7, 8, 9, 10, 11] m (fun k i _ _ _ _ wr => ∃ (j : Nat), i = .int .i64 j ∧ k = m - j ∧ j ≤ m ∧ Know w wr S [rBlk b5 (Op18.cells ⟨3, x, ⟨0, 0, 0, 0, mvZ, poseO, 0⟩⟩) 67, rROB c.p 0 p (tickN j r), rRF c q (tickN j r)] [rConf c, stepsR])
  case atStart => exact ⟨0, rfl, rfl, by omega, hK⟩
  case round =>
    clear hK
    obtain ⟨j, rfl, rfl, hj, hK⟩ := hrel
    by_cases hlt : j < m
    · have dl : decide ((j : Int) < 1 + y) = true := decide_eq_true (by have := HM.out; omega)
      have hokj := (HR.out.tickN j).ok
      obtain ⟨v, hv⟩ : ∃ v, (tickN j r).tick = v := ⟨_, rfl⟩
      have hv1 : tickN (j + 1) r = v.1 := by rw [← hv]; rfl
      have kT := Lib.hid (fun (W : World) (S : Nat → Prop) (h : (rROB c.p 0 p (tickN j r)).p W S) => rb_tick hokj (by omega) hv h)
      have kF := Lib.hid (fun (W : World) (S : Nat → Prop) (h : (rRF c q (tickN j r)).p W S) => rf_tick hokj (by omega) hv h)
      obtain ⟨r', mv, how⟩ := v
      simp only at kT kF hv1
      have HV := Lib.hid hv1
      clear hv hv1 hokj
      go_wp2_with (first
        | (go_at_call 16; go_must (refine (hK.quiet (kP9.out _)).mono ?_; clear hK; rintro e w' ⟨rfl, hK⟩))
        | (go_at_call 17; go_must (refine (hK.callsI (fun S hS => kT.out _ _ hS)).mono ?_; clear hK; rintro e w' ⟨rfl, hK⟩; simp only [List.set_cons_zero, List.set_cons_succ] at hK))
        | (go_at_call 51; go_must (refine (hK.callsI (fun S hS => kF.out _ _ hS)).mono ?_; clear hK; rintro e w' ⟨rfl, hK⟩; simp only [List.set_cons_zero, List.set_cons_succ] at hK))
        | ((with_reducible refine wl_at (o := ⟨some 8, .alloc _, _, _, _, _⟩) ?_)
           go_must (refine wl_allocK (z := .agg (moveZ).toArray) (zs := moveZ) hK rfl rfl (by kernel_rfl) rfl ?_; clear hK; intro w8 b8 hK))
        | ((with_reducible refine wl_at (o := ⟨some 10, .alloc _, _, _, _, _⟩) ?_)
           go_must (refine wl_allocK (z := .agg (moveZ).toArray) (zs := moveZ) hK rfl rfl (by kernel_rfl) rfl ?_; clear hK; intro w10 b10 hK))
        | ((with_reducible refine wl_at (o := ⟨none, .store 41 _ _, _, _, _, _⟩) ?_)
           go_must (refine wl_storeWK (vs := Go.Sk.Move.cells mv) hK rfl rfl rfl rfl (aggS (by decide)) (move_one _) (h := ?_); clear hK; intro w' hK; simp only [List.set_cons_zero, List.set_cons_succ] at hK))
        | ((with_reducible refine wl_at (o := ⟨some 66, _, _, _, _, _⟩) ?_); go_must (refine wl_neqMs mv moveEq rfl rfl rfl rfl ?_))
        | go_big_skip
        | ((with_reducible refine wl_at (o := ⟨_, .load _ _, _, _, _, _⟩) ?_)
           first
             | refine wl_loadK hK rfl rfl rfl (scalT (by decide)) (h := ?_)
             | refine wl_loadSK hK rfl rfl rfl (aggT (by decide)) (h := ?_)
             | refine wl_loadA0 rfl rfl rfl (scalT (by decide)) (h := ?_)
             | refine wl_loadA rfl rfl rfl (scalT (by decide)) (h := ?_)
             | refine wl_loadSA rfl rfl rfl (aggT (by decide)) (h := ?_))
        | (with_reducible refine atEnd_mk (by kernel_rfl) ?_))
      go_roundg (m - (j + 1))
      case measure => omega
      case rel => exact ⟨j + 1, by go_num, rfl, by omega, by rw [HV.out]; exact hK.sub (.cons _ (.cons _ (List.Sublist.refl _)))⟩
    · have hjm : j = m := by omega
      subst hjm
      have dl : decide ((j : Int) < 1 + y) = false := decide_eq_false (by have := HM.out; omega)
      go_wp2_with (first
        | (go_at_call 16; go_must (refine (hK.quiet (kP9.out _)).mono ?_; clear hK; rintro e w' ⟨rfl, hK⟩))
        | (go_at_call 25; go_must (refine (hK.quiet (kS.out _ hK.own hK.own)).mono ?_; clear hK; rintro e w' ⟨rfl, hK⟩))
        | go_big_skip
        | ((with_reducible refine wl_at (o := ⟨_, .load _ _, _, _, _, _⟩) ?_)
           first
             | refine wl_loadK hK rfl rfl rfl (scalT (by decide)) (h := ?_)
             | refine wl_loadSK hK rfl rfl rfl (aggT (by decide)) (h := ?_)
             | refine wl_loadA0 rfl rfl rfl (scalT (by decide)) (h := ?_)
             | refine wl_loadA rfl rfl rfl (scalT (by decide)) (h := ?_)
             | refine wl_loadSA rfl rfl rfl (aggT (by decide)) (h := ?_))
        | (with_reducible refine atEnd_mk (by kernel_rfl) ?_))
      go_ret
      exact ⟨rfl, (hK.sub (.cons _ (.cons_cons _ (.cons_cons _ .slnil)))).turns⟩

set_option maxHeartbeats 4000000 in
theorem do_delay {c : ConfV} {p q : Nat} {r : RM} {n x d : Int} {w : World} {S : Nat → Prop} (hok : RMOk c.p r n) (hd : x % 40 - 5 = d) (h : Know w w S [rROB c.p 0 p r, rRF c q r] [rConf c, stepsR]) :
    Calls Tryz.prog 26 #[.pointer (some ⟨p, 0, none⟩), .pointer (some ⟨q, 0, none⟩), .agg (Op18.cells ⟨6, x, ⟨0, 0, 0, 0, mvZ, poseO, 0⟩⟩).toArray] w (doPost c p q (r.hold d) w S) := by
  have hK := h
  have hx0 : 0 ≤ x % 40 := Int.emod_nonneg x (by omega)
  have hx1 : x % 40 < 40 := Int.emod_lt_of_pos x (by omega)
  have kPl := Lib.hid (fun (W : World) => show Calls Tryz.prog 16 #[.int .i64 6, .int .i64 8] W (Ret (.int .i64 6) W) from
    (Place_calls 6 8 W (by omega) (by omega)).mono fun e w' h => ⟨by rw [h.1]; rfl, by rw [h.2]; exact Mod.refl _ _⟩)
  obtain ⟨y, hy⟩ : ∃ y, x % 40 = y := ⟨_, rfl⟩
  have kP4 := Lib.hid (fun (W : World) => show Calls Tryz.prog 16 #[.int .i64 x, .int .i64 40] W (Ret (.int .i64 y) W) from
    (Place_calls x 40 W (by omega) (by omega)).mono fun e w' h => ⟨by rw [h.1, hy], by rw [h.2]; exact Mod.refl _ _⟩)
  rw [hy] at hd hx0 hx1
  subst hd
  have kD := Lib.hid (fun (W : World) (S : Nat → Prop) (h : (rROB c.p 0 p r).p W S) => rb_delay (d := y - 5) hok h)
  have kE := Lib.hid (fun (W : World) (S : Nat → Prop) (h : (rRF c q r).p W S) => rf_delay (d := y - 5) hok h)
  obtain ⟨r', hr'⟩ : ∃ r', r.hold (y - 5) = r' := ⟨_, rfl⟩
  rw [hr'] at kD kE ⊢
  have kS := Lib.hid (fun (W : World) (h1 : Has W (rROB c.p 0 p r')) (h2 : Has W (rRF c q r')) => same_calls h1 h2)
  clear h hy hok hr'
  go_enter Tryz.func26, Tryz.ntmps26
  go_wp2_with (first
    | ((with_reducible refine wl_at (o := ⟨some 5, .box _ _, _, _, _, _⟩) ?_); go_must (refine wl_boxK (zs := Op18.cells ⟨6, x, ⟨0, 0, 0, 0, mvZ, poseO, 0⟩⟩) hK rfl rfl rfl rfl ?_; clear hK; intro w5 b5 hK))
    | (go_at_call 16; go_must (first
         | (with_reducible refine (hK.quiet (kPl.out _)).mono ?_; clear hK; rintro e w' ⟨rfl, hK⟩)
         | (with_reducible refine (hK.quiet (kP4.out _)).mono ?_; clear hK; rintro e w' ⟨rfl, hK⟩)))
    | (go_at_call 12; go_must (refine (hK.callsI (fun S hS => kD.out _ _ hS)).mono ?_; clear hK; rintro e w' ⟨rfl, hK⟩; simp only [List.set_cons_zero, List.set_cons_succ] at hK))
    | (go_at_call 52; go_must (refine (hK.callsI (fun S hS => kE.out _ _ hS)).mono ?_; clear hK; rintro e w' ⟨rfl, hK⟩; simp only [List.set_cons_zero, List.set_cons_succ] at hK))
    | (go_at_call 25; go_must (refine (hK.quiet (kS.out _ hK.own hK.own)).mono ?_; clear hK; rintro e w' ⟨rfl, hK⟩))
    | go_big_skip
    | ((with_reducible refine wl_at (o := ⟨_, .load _ _, _, _, _, _⟩) ?_)
       first
         | refine wl_loadK hK rfl rfl rfl (scalT (by decide)) (h := ?_)
         | refine wl_loadSK hK rfl rfl rfl (aggT (by decide)) (h := ?_)
         | refine wl_loadA0 rfl rfl rfl (scalT (by decide)) (h := ?_)
         | refine wl_loadA rfl rfl rfl (scalT (by decide)) (h := ?_)
         | refine wl_loadSA rfl rfl rfl (aggT (by decide)) (h := ?_))
    | (with_reducible refine atEnd_mk (by kernel_rfl) ?_))
  go_ret
  exact ⟨rfl, (hK.sub (.cons _ (.cons_cons _ (.cons_cons _ .slnil)))).turns⟩
end Go.Proofs.YtcjpnlplibaffaaGreatDoor
