/- Robots: telegrams that turn nothing, or little. -/
import Derived.Test.YtcjpnlplibaffaaDoorRb3Q
set_option linter.all false
namespace Go.Proofs.YtcjpnlplibaffaaDoor
open Go Go.Sk Go.RowKit
set_option maxRecDepth 100000

theorem Know.robHas {c : ConfP} {i : Int} {p gp kp up : Nat} {r : RM} {w0 w : World} {S : Nat → Prop} {L : List Res} (h : Know w0 w S (rRb c i p gp kp up r) L) : Has w (rROB c i p r) := by
  obtain ⟨_, S', h2, _⟩ := Turns.rob h.turns
  exact ⟨S', h2⟩
theorem Know.robAll {c : ConfP} {i : Int} {p gp kp up : Nat} {r : RM} {w0 w : World} {S : Nat → Prop} {X : Res} {L : List Res} (h : Know w0 w S (X :: rRb c i p gp kp up r) L) : Know w0 w S [X, rROB c i p r] L := by
  obtain ⟨hm, U, ⟨S1, V, h1, h2, h3, h4⟩, h5, h6⟩ := h
  exact ⟨hm, U, ⟨S1, V, h1, Sep.one (rROB_p.2 ⟨gp, kp, up, h2⟩), h3, h4⟩, h5, h6⟩

/-- Of an older epoch: refused. -/
theorem rb_goes_old {c : ConfP} {i : Int} {p : Nat} {r : RM} {t : Tele} {w : World} (h : Has w (rROB c i p r)) (ht : t.epoch < r.epoch) : Calls Tryd.prog 19 #[.pointer (some ⟨p, 0, none⟩), .agg t.cells.toArray] w (Ret (.tuple #[.slice none 0 0, .int .i64 2]) w) := by
  obtain ⟨gp, kp, up, hK⟩ := Has.robK h
  clear h
  simp only [rRb, rbCells] at hK
  have d1 : decide (t.epoch < r.epoch) = true := decide_eq_true ht
  go_enter Tryd.func19, Tryd.ntmps19
  go_wp2_with (first
    | ((with_reducible refine wl_at (o := ⟨some 3, .box _ _, _, _, _, _⟩) ?_)
       go_must (refine wl_boxK hK rfl rfl rfl rfl ?_; clear hK; intro w3 b3 hK))
    | ((with_reducible refine wp_region_textK (id := 1) hK (by kernel_rfl) (by kernel_rfl) ?_); clear hK; intro w' hK)
    | go_big_skip
    | go_big_skip
    | ((with_reducible refine wl_at (o := ⟨_, .load _ _, _, _, _, _⟩) ?_)
       first
         | refine wl_loadK hK rfl rfl rfl (scalT (by decide)) (h := ?_)
         | refine wl_loadSK hK rfl rfl rfl (aggT (by decide)) (h := ?_)
         | refine wl_loadA0 rfl rfl rfl (scalT (by decide)) (h := ?_)
         | refine wl_loadA rfl rfl rfl (scalT (by decide)) (h := ?_)
         | refine wl_loadSA rfl rfl rfl (aggT (by decide)) (h := ?_))
    | (with_reducible refine atEnd_mk (by kernel_rfl) ?_))
  go_ret2
  exact ⟨rfl, hK.mod⟩
/-- A stop of a newer epoch, at a robot that stands. -/
theorem rb_stops_stand {c : ConfP} {i e : Int} {p : Nat} {r : RM} {w : World} {S : Nat → Prop} (h : Know w w S [rROB c i p r] []) (hu : r.under = none) (he : r.epoch < e) (h0 : 0 ≤ r.epoch) : Calls Tryd.prog 20 #[.pointer (some ⟨p, 0, none⟩), .int .i64 e] w fun en w' =>
    ∃ ad, en = .returned (.tuple #[.slice ad 1 1, .int .i64 3]) ∧ Turns [rOw 40 elTele (.slice ad 1 1) [({ r with epoch := e, num := 0 } : RM).tell i], rROB c i p { r with epoch := e, num := 0 }] w w' S := by
  obtain ⟨gp, kp, up, hK⟩ := Know.rob h
  clear h
  obtain ⟨pose, load, epoch, num, under, stopping, delay⟩ := r
  simp only at hu he h0
  subst hu
  simp only [rRb, rbCells, underV, underRes] at hK
  have d1 : decide (e < epoch) = false := decide_eq_false (by omega)
  have d2 : decide (epoch < e) = true := decide_eq_true he
  have d3 : decide (e = 0) = false := decide_eq_false (by omega)
  have d3' : (e == 0) = false := beq_eq_false_iff_ne.2 (by omega)
  obtain ⟨T, hT⟩ : ∃ T, ({ pose := pose, load := load, epoch := e, num := 0, under := none, stopping := stopping, delay := delay } : RM).tell i = T := ⟨_, rfl⟩
  rw [hT]
  have HT := Lib.hid hT
  clear hT
  go_enter Tryd.func20, Tryd.ntmps20
  go_wp2_with (first
    | ((with_reducible refine wl_at (o := ⟨none, .store 3 (.tmp 25) _, _, _, _, _⟩) ?_); go_must (refine wl_storeK hK rfl rfl rfl rfl (sizT (by decide)) rfl (hk := by simp) (h := ?_); clear hK; intro w' hK; simp only [List.set_cons_zero, List.set_cons_succ] at hK))
    | ((with_reducible refine wl_at (o := ⟨none, .store 3 (.tmp 27) _, _, _, _, _⟩) ?_); go_must (refine wl_storeK hK rfl rfl rfl rfl (sizT (by decide)) rfl (hk := by simp) (h := ?_); clear hK; intro w' hK; simp only [List.set_cons_zero, List.set_cons_succ] at hK))
    | (go_at_call 24; go_must (refine (rb_tell (c := c) (i := i) (p := p) (r := { pose := pose, load := load, epoch := e, num := 0, under := none, stopping := stopping, delay := delay }) (Know.robHas (gp := gp) (kp := kp) (up := up) hK)).mono ?_; rintro en w' ⟨ad, rfl, hT⟩; replace hK := hK.push1 hT; rw [HT.out] at hK; clear hT))
    | go_big_skip
    | go_big_skip
    | ((with_reducible refine wl_at (o := ⟨_, .load _ _, _, _, _, _⟩) ?_)
       first
         | refine wl_loadK hK rfl rfl rfl (scalT (by decide)) (h := ?_)
         | refine wl_loadSK hK rfl rfl rfl (aggT (by decide)) (h := ?_)
         | refine wl_loadA0 rfl rfl rfl (scalT (by decide)) (h := ?_)
         | refine wl_loadA rfl rfl rfl (scalT (by decide)) (h := ?_)
         | refine wl_loadSA rfl rfl rfl (aggT (by decide)) (h := ?_))
    | (with_reducible refine atEnd_mk (by kernel_rfl) ?_))
  go_ret2
  exact ⟨ad, rfl, (Know.robAll (gp := gp) (kp := kp) (up := up) hK).turns⟩
/-- For another robot, or of another kind: nothing. -/
theorem rb_hear_none {c : ConfP} {i : Int} {p : Nat} {r : RM} {t : Tele} {w : World} (h : Has w (rROB c i p r)) (ht : t.robot ≠ i ∨ (t.kind ≠ 1 ∧ t.kind ≠ 2)) : Calls Tryd.prog 8 #[.pointer (some ⟨p, 0, none⟩), .agg t.cells.toArray] w (Ret (.tuple #[.slice none 0 0, .int .i64 0]) w) := by
  obtain ⟨gp, kp, up, hK⟩ := Has.robK h
  clear h
  simp only [rRb, rbCells] at hK
  by_cases hr : t.robot = i
  · obtain ⟨h1, h2⟩ := ht.resolve_left (fun e => e hr)
    have d1 : (t.kind == 1) = false := beq_eq_false_iff_ne.2 h1
    have d1' : decide (t.kind = 1) = false := decide_eq_false h1
    have d2 : (t.kind == 2) = false := beq_eq_false_iff_ne.2 h2
    have d2' : decide (t.kind = 2) = false := decide_eq_false h2
    have d3 : (t.robot != i) = false := by simp [hr]
    go_enter Tryd.func8, Tryd.ntmps8
    go_wp2_with (first
      | ((with_reducible refine wl_at (o := ⟨some 3, .box _ _, _, _, _, _⟩) ?_)
         go_must (refine wl_boxK hK rfl rfl rfl rfl ?_; clear hK; intro w3 b3 hK))
      | ((with_reducible refine wp_region_textK (id := 1) hK (by kernel_rfl) (by kernel_rfl) ?_); clear hK; intro w' hK)
      | go_big_skip
      | go_big_skip
      | ((with_reducible refine wl_at (o := ⟨_, .load _ _, _, _, _, _⟩) ?_)
         first
           | refine wl_loadK hK rfl rfl rfl (scalT (by decide)) (h := ?_)
           | refine wl_loadSK hK rfl rfl rfl (aggT (by decide)) (h := ?_)
           | refine wl_loadA0 rfl rfl rfl (scalT (by decide)) (h := ?_)
           | refine wl_loadA rfl rfl rfl (scalT (by decide)) (h := ?_)
           | refine wl_loadSA rfl rfl rfl (aggT (by decide)) (h := ?_))
      | (with_reducible refine atEnd_mk (by kernel_rfl) ?_))
    go_ret2
    exact ⟨rfl, hK.mod⟩
  · have d3 : (t.robot != i) = true := bne_iff_ne.2 hr
    have d3' : decide (t.robot = i) = false := decide_eq_false hr
    go_enter Tryd.func8, Tryd.ntmps8
    go_wp2_with (first
      | ((with_reducible refine wl_at (o := ⟨some 3, .box _ _, _, _, _, _⟩) ?_)
         go_must (refine wl_boxK hK rfl rfl rfl rfl ?_; clear hK; intro w3 b3 hK))
      | ((with_reducible refine wp_region_textK (id := 1) hK (by kernel_rfl) (by kernel_rfl) ?_); clear hK; intro w' hK)
      | go_big_skip
      | go_big_skip
      | ((with_reducible refine wl_at (o := ⟨_, .load _ _, _, _, _, _⟩) ?_)
         first
           | refine wl_loadK hK rfl rfl rfl (scalT (by decide)) (h := ?_)
           | refine wl_loadSK hK rfl rfl rfl (aggT (by decide)) (h := ?_)
           | refine wl_loadA0 rfl rfl rfl (scalT (by decide)) (h := ?_)
           | refine wl_loadA rfl rfl rfl (scalT (by decide)) (h := ?_)
           | refine wl_loadSA rfl rfl rfl (aggT (by decide)) (h := ?_))
      | (with_reducible refine atEnd_mk (by kernel_rfl) ?_))
    go_ret2
    exact ⟨rfl, hK.mod⟩
theorem rb_hear_old {c : ConfP} {i : Int} {p : Nat} {r : RM} {t : Tele} {w : World} (h : Has w (rROB c i p r)) (hr : t.robot = i) (hk : t.kind = 1) (ht : t.epoch < r.epoch) : Calls Tryd.prog 8 #[.pointer (some ⟨p, 0, none⟩), .agg t.cells.toArray] w (Ret (.tuple #[.slice none 0 0, .int .i64 2]) w) := by
  have kG := Lib.hid (fun (W : World) (h : Mod none' w W) (h1 : Has W (rROB c i p r)) => rb_goes_old h1 ht)
  obtain ⟨S, hS⟩ := h
  have hK0 : Know w w none' [] [rROB c i p r] := Know.start (L := [rROB c i p r]) w (by simpa using ⟨S, hS⟩)
  obtain ⟨gp, kp, up, hg⟩ := Has.rob (hK0.lent (r := rROB c i p r))
  have hK : Know w w none' [] (rROB c i p r :: rRb c i p gp kp up r) := Know.start (L := rROB c i p r :: rRb c i p gp kp up r) w (by
    intro x hx
    rcases List.mem_cons.1 hx with rfl | hx
    · exact ⟨S, hS⟩
    · exact hg x hx)
  clear hK0 hg hS ht
  simp only [rRb, rbCells] at hK
  have d3 : (t.robot != i) = false := by simp [hr]
  have d1 : (t.kind == 1) = true := beq_iff_eq.2 hk
  have d1' : decide (t.kind = 1) = true := decide_eq_true hk
  go_enter Tryd.func8, Tryd.ntmps8
  go_wp2_with (first
    | ((with_reducible refine wl_at (o := ⟨some 3, .box _ _, _, _, _, _⟩) ?_)
       go_must (refine wl_boxK hK rfl rfl rfl rfl ?_; clear hK; intro w3 b3 hK))
    | ((with_reducible refine wp_region_textK (id := 1) hK (by kernel_rfl) (by kernel_rfl) ?_); clear hK; intro w' hK)
    | ((with_reducible refine wl_at (o := ⟨some 29, _, _, _, _, _⟩) ?_); go_must (refine wl_loadPK (Tele.cells t) hK rfl rfl rfl (aggT (by decide)) (h := ?_)))
    | (go_at_call 19; go_must (refine (hK.quiet (kG.out _ hK.mod hK.lent)).mono ?_; clear hK; rintro e w' ⟨rfl, hK⟩))
    | go_big_skip
    | go_big_skip
    | ((with_reducible refine wl_at (o := ⟨_, .load _ _, _, _, _, _⟩) ?_)
       first
         | refine wl_loadK hK rfl rfl rfl (scalT (by decide)) (h := ?_)
         | refine wl_loadSK hK rfl rfl rfl (aggT (by decide)) (h := ?_)
         | refine wl_loadA0 rfl rfl rfl (scalT (by decide)) (h := ?_)
         | refine wl_loadA rfl rfl rfl (scalT (by decide)) (h := ?_)
         | refine wl_loadSA rfl rfl rfl (aggT (by decide)) (h := ?_))
    | (with_reducible refine atEnd_mk (by kernel_rfl) ?_))
  go_ret2
  exact ⟨rfl, hK.mod⟩
theorem rb_hear_stand {c : ConfP} {i e : Int} {p : Nat} {r : RM} {t : Tele} {w : World} {S : Nat → Prop} (h : Know w w S [rROB c i p r] []) (hr : t.robot = i) (hk : t.kind = 2) (hu : r.under = none) (he : t.epoch = e) (he2 : r.epoch < e) (h0 : 0 ≤ r.epoch) : Calls Tryd.prog 8 #[.pointer (some ⟨p, 0, none⟩), .agg t.cells.toArray] w fun en w' =>
    ∃ ad, en = .returned (.tuple #[.slice ad 1 1, .int .i64 3]) ∧ Turns [rOw 40 elTele (.slice ad 1 1) [({ r with epoch := e, num := 0 } : RM).tell i], rROB c i p { r with epoch := e, num := 0 }] w w' S := by
  subst he
  obtain ⟨gp, kp, up, hK⟩ := Know.rob h
  clear h
  obtain ⟨T, hT⟩ : ∃ T, ({ r with epoch := t.epoch, num := 0 } : RM).tell i = T := ⟨_, rfl⟩
  obtain ⟨r', hr'⟩ : ∃ r', ({ r with epoch := t.epoch, num := 0 } : RM) = r' := ⟨_, rfl⟩
  have kS := Lib.hid (fun (W : World) (S : Nat → Prop) (h : Know W W S [rROB c i p r] []) => rb_stops_stand (e := t.epoch) h hu he2 h0)
  rw [hT, hr'] at kS ⊢
  have d3 : (t.robot != i) = false := by simp [hr]
  have d1 : (t.kind == 1) = false := beq_eq_false_iff_ne.2 (by omega)
  have d1' : decide (t.kind = 1) = false := decide_eq_false (by omega)
  have d2 : (t.kind == 2) = true := beq_iff_eq.2 hk
  have d2' : decide (t.kind = 2) = true := decide_eq_true hk
  clear hT hr' hu he2 h0
  simp only [rRb, rbCells] at hK
  go_enter Tryd.func8, Tryd.ntmps8
  go_wp2_with (first
    | ((with_reducible refine wl_at (o := ⟨some 3, .box _ _, _, _, _, _⟩) ?_)
       go_must (refine wl_boxK hK rfl rfl rfl rfl ?_; clear hK; intro w3 b3 hK))
    | ((with_reducible refine wp_region_textK (id := 1) hK (by kernel_rfl) (by kernel_rfl) ?_); clear hK; intro w' hK)
    | (go_at_call 20
       replace hK := Know.robAll (gp := gp) (kp := kp) (up := up) (r := r) hK
       obtain ⟨S1, hKS, back⟩ := Know.focus (R := [rROB c i p r]) (M := [rBlk b3 t.cells 40]) (hK.pull (.tail .head))
       refine (kS.out _ S1 hKS).mono ?_
       rintro en w' ⟨ad, rfl, hT⟩
       replace hK := back _ _ hT)
    | go_big_skip
    | go_big_skip
    | ((with_reducible refine wl_at (o := ⟨_, .load _ _, _, _, _, _⟩) ?_)
       first
         | refine wl_loadK hK rfl rfl rfl (scalT (by decide)) (h := ?_)
         | refine wl_loadSK hK rfl rfl rfl (aggT (by decide)) (h := ?_)
         | refine wl_loadA0 rfl rfl rfl (scalT (by decide)) (h := ?_)
         | refine wl_loadA rfl rfl rfl (scalT (by decide)) (h := ?_)
         | refine wl_loadSA rfl rfl rfl (aggT (by decide)) (h := ?_))
    | (with_reducible refine atEnd_mk (by kernel_rfl) ?_))
  go_ret2
  exact ⟨ad, rfl, (hK.sub (M' := [rOw 40 elTele (.slice ad 1 1) [T], rROB c i p r']) (.cons_cons _ (.cons_cons _ (.cons _ .slnil)))).turns⟩
end Go.Proofs.YtcjpnlplibaffaaDoor
