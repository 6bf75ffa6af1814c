/- Robots: one in memory; New. -/
import Derived.Test.YtcjpnlplibaffaaDoorRb1Q
import Derived.Test.YtcjpnlplibaffaaDoorStC
set_option linter.all false
namespace Go.Proofs.YtcjpnlplibaffaaDoor
open Go Go.Sk Go.RowKit
set_option maxRecDepth 100000

def kinOf (c : ConfP) : KinP := ⟨c.unit, c.accel, c.speed⟩
theorem kinOf_ok {c : ConfP} (h : MayP c) : (kinOf c).Ok := by
  have hn := nums_iff.1 h.nums
  exact ⟨hn.unit.1, hn.unit.2, hn.accel.1, hn.accel.2, hn.speed.1, hn.speed.2⟩
def underV (up : Nat) (r : RM) : Value := match r.under with
  | none => .pointer none
  | some _ => .pointer (some ⟨up, 0, none⟩)
def rbCells (i : Int) (gp kp up : Nat) (r : RM) : List Value := [.int .i64 i, .pointer (some ⟨gp, 0, none⟩), .pointer (some ⟨kp, 0, none⟩), .int .i64 r.pose.at_.x, .int .i64 r.pose.at_.y, .bool r.pose.down, .int .i64 r.load, .int .i64 r.epoch, .int .i64 r.num, underV up r, .bool r.stopping, .int .i64 r.delay]
def goCells (u : Going) : List Value := [.int .i64 u.move.kind, .int .i64 u.move.dir, .int .i64 u.move.n, .int .i64 u.move.src.at_.x, .int .i64 u.move.src.at_.y, .bool u.move.src.down, .int .i64 u.move.dst.at_.x, .int .i64 u.move.dst.at_.y, .bool u.move.dst.down, .int .i64 u.move.at_, .int .i64 u.move.fin, .int .i64 u.t, .int .i64 u.left, .bool u.cut]
def underRes (up : Nat) (r : RM) : List Res := match r.under with
  | none => []
  | some u => [rBlk up (goCells u) 70]
def rRb (c : ConfP) (i : Int) (p gp kp up : Nat) (r : RM) : List Res := rBlk p (rbCells i gp kp up r) 67 :: rGRID c gp :: rKIN (kinOf c) kp :: underRes up r
@[irreducible] def rROB (c : ConfP) (i : Int) (p : Nat) (r : RM) : Res where
  p w S := ∃ gp kp up, Sep w (rRb c i p gp kp up r) S
  loc := by rintro w w' S ⟨x, y, z, h5⟩ he; exact ⟨x, y, z, h5.loc he⟩
  lt := by rintro w S ⟨_, _, _, h⟩; exact h.lt
theorem rROB_p {c : ConfP} {i : Int} {p : Nat} {r : RM} {w : World} {S : Nat → Prop} : (rROB c i p r).p w S ↔ ∃ gp kp up, Sep w (rRb c i p gp kp up r) S := by unfold rROB; exact Iff.rfl
theorem Turns.rob {c : ConfP} {i : Int} {p gp kp up : Nat} {r : RM} {w w' : World} {S : Nat → Prop} (h : Turns (rRb c i p gp kp up r) w w' S) : Turn (rROB c i p r) w w' S := by
  obtain ⟨h1, S', h2, h3⟩ := h
  exact ⟨h1, S', rROB_p.2 ⟨gp, kp, up, h2⟩, h3⟩
theorem Has.rob {c : ConfP} {i : Int} {p : Nat} {r : RM} {w : World} (h : Has w (rROB c i p r)) : ∃ gp kp up, ∀ x ∈ rRb c i p gp kp up r, Has w x := by
  obtain ⟨S, h⟩ := h
  obtain ⟨gp, kp, up, h⟩ := rROB_p.1 h
  exact ⟨gp, kp, up, fun x hx => h.has hx⟩
theorem Know.rob {c : ConfP} {i : Int} {p : Nat} {r : RM} {w : World} {S : Nat → Prop} {L : List Res} (h : Know w w S [rROB c i p r] L) : ∃ gp kp up, Know w w S (rRb c i p gp kp up r) L := by
  obtain ⟨hm, U, ⟨S1, V, h1, h2, h3, h4⟩, h5, h6⟩ := h
  obtain ⟨gp, kp, up, k⟩ := rROB_p.1 h1
  have hU : ∀ b, U b ↔ S1 b := fun b => (h4 b).trans ⟨fun h => h.resolve_right (h2 b), .inl⟩
  exact ⟨gp, kp, up, hm, S1, k, fun b hb => h5 b ((hU b).2 hb), fun r hr => by
    obtain ⟨T, i1, i2⟩ := h6 r hr
    exact ⟨T, i1, fun b hb hs => i2 b hb ((hU b).2 hs)⟩⟩

def RNewPost (c : ConfV) (i : Int) (w : World) (e : Ending) (w' : World) : Prop :=
    (¬ MayP c.p ∧ e = .returned (.tuple #[.pointer none, .int .i64 5]) ∧ Mod none' w w') ∨
    (MayP c.p ∧ ¬ (0 ≤ i ∧ i < c.robots.l.length) ∧ e = .returned (.tuple #[.pointer none, .int .i64 1]) ∧ Mod none' w w') ∨
    (MayP c.p ∧ 0 ≤ i ∧ ∃ p u, c.robots.l[i.toNat]? = some u ∧ e = .returned (.tuple #[.pointer (some ⟨p, 0, none⟩), .int .i64 0]) ∧ Turn (rROB c.p i p (RM.start u)) w w' none')

set_option maxHeartbeats 2000000 in
theorem rb_new {c : ConfV} {i : Int} {w : World} (hc : Has w (rConf c)) (hst : Has w stepsR) (hz : Sized c) (hwf : ∀ p ∈ c.robots.l, PoseWf p) : Calls Tryd.prog 6 #[.agg c.cells.toArray, .int .i64 i] w (RNewPost c i w) := by
  have hK : Know w w none' [] [rRd elPose c.robots.val c.robots.l, rConf c, stepsR] := Know.start (L := [rRd elPose c.robots.val c.robots.l, rConf c, stepsR]) w (by
    intro r hr
    simp only [List.mem_cons, List.not_mem_nil, or_false] at hr
    rcases hr with rfl | rfl | rfl
    · exact hc.robots.has
    · exact hc
    · exact hst)
  have km := Lib.hid (fun (W : World) (h1 : Has W (rConf c)) (h2 : Has W stepsR) => g_new h1 h2 hz hwf)
  have hb3 := hz.robots
  clear hc hst
  by_cases hi : 0 ≤ i ∧ i < c.robots.l.length
  · obtain ⟨hi0, hi1⟩ := hi
    obtain ⟨j, rfl⟩ : ∃ j : Nat, i = (j : Int) := ⟨i.toNat, by omega⟩
    obtain ⟨u, hu⟩ : ∃ u, c.robots.l[j]? = some u := ⟨_, List.getElem?_eq_getElem (by omega)⟩
    have HU := Lib.hid hu
    clear hu
    go_enter Tryd.func6, Tryd.ntmps6
    go_wp2_with (first
      | ((with_reducible refine wl_at (o := ⟨some 2, .box _ _, _, _, _, _⟩) ?_)
         go_must (refine wl_boxK hK rfl rfl rfl rfl ?_; clear hK; intro w2 b2 hK))
      | (go_at_call 17
         refine (km.out _ (hK.has (by simp)) (hK.has (by simp))).mono ?_
         rintro e w' (⟨hn, rfl, m⟩ | ⟨hm, gp, rfl, hT⟩)
         all_goals first
           | (replace hK := hK.same m; have HN := Lib.hid hn; clear hn m)
           | (replace hK := hK.push1 hT; have HM := Lib.hid hm; clear hm hT))
      | (go_at_call 18; go_must (refine (kn_new (u := c.unit) (a := c.accel) (s := c.speed) (kinOf_ok HM.out)).mono ?_; rintro e w' ⟨kp, rfl, hT⟩; replace hK := hK.push1 hT; clear hT))
      | ((with_reducible refine wl_at (o := ⟨some 43, _, _, _, _, _⟩) ?_); go_must (refine wl_ixK (xs := c.robots.l) (u := u) hK rfl rfl rfl rfl poseTy.und poseTy.size (hu := HU) (h := ?_); intro b43 k43 hat43))
      | ((with_reducible refine wl_at (o := ⟨some 44, _, _, _, _, _⟩) ?_)
         go_must (refine wl_loadP0 [.int .i64 u.at_.x, .int .i64 u.at_.y, .bool u.down] rfl rfl rfl (aggT (by decide)) (h := ?_)))
      | ((with_reducible refine wl_at (o := ⟨some 46, .box _ _, _, _, _, _⟩) ?_)
         go_must (refine wl_boxK (zs := rbCells j gp kp 0 (RM.start u)) hK rfl rfl rfl (by kernel_rfl) ?_; clear hK; intro w46 b46 hK))
      | go_big_skip
      | go_big_skip
      | ((with_reducible refine wl_at (o := ⟨_, .load _ _, _, _, _, _⟩) ?_)
         first
           | refine wl_loadK hK rfl rfl rfl (scalT (by decide)) (h := ?_)
           | refine wl_loadSK hK rfl rfl rfl (aggT (by decide)) (h := ?_)
           | refine wl_loadA0 rfl rfl rfl (scalT (by decide)) (h := ?_)
           | refine wl_loadA rfl rfl rfl (scalT (by decide)) (h := ?_)
           | refine wl_loadSA rfl rfl rfl (aggT (by decide)) (h := ?_))
      | (with_reducible refine atEnd_mk (by kernel_rfl) ?_))
    · go_ret2
      exact .inl ⟨HN.out, rfl, hK.mod⟩
    · go_ret2
      refine .inr (.inr ⟨HM.out, by omega, b46, u, HU.out, rfl, Turns.rob (gp := gp) (kp := kp) (up := 0) ?_⟩)
      have hK2 := (hK.sub (M' := [rBlk b46 (rbCells j gp kp 0 (RM.start u)) 67, rKIN (kinOf c.p) kp, rGRID c.p gp]) (.cons_cons _ (.cons_cons _ (.cons_cons _ (.cons _ .slnil))))).pull (.tail (.tail .head))
      exact (hK2.pull (.tail .head)).turns
  · go_enter Tryd.func6, Tryd.ntmps6
    have hi2 : i < 0 ∨ (0 ≤ i ∧ c.robots.l.length ≤ i) := by omega
    have HI := Lib.hid hi
    clear hi
    rcases hi2 with h0 | ⟨h0, h1⟩
    · have d0 : decide (i < 0) = true := decide_eq_true h0
      go_wp2_with (first
        | ((with_reducible refine wl_at (o := ⟨some 2, .box _ _, _, _, _, _⟩) ?_)
           go_must (refine wl_boxK hK rfl rfl rfl rfl ?_; clear hK; intro w2 b2 hK))
        | (go_at_call 17
           refine (km.out _ (hK.has (by simp)) (hK.has (by simp))).mono ?_
           rintro e w' (⟨hn, rfl, m⟩ | ⟨hm, gp, rfl, hT⟩)
           all_goals first
             | (replace hK := hK.same m; have HN := Lib.hid hn; clear hn m)
             | (replace hK := hK.push1 hT; have HM := Lib.hid hm; clear hm hT))
        | go_big_skip
        | go_big_skip
        | ((with_reducible refine wl_at (o := ⟨_, .load _ _, _, _, _, _⟩) ?_)
           first
             | refine wl_loadK hK rfl rfl rfl (scalT (by decide)) (h := ?_)
             | refine wl_loadSK hK rfl rfl rfl (aggT (by decide)) (h := ?_)
             | refine wl_loadA0 rfl rfl rfl (scalT (by decide)) (h := ?_)
             | refine wl_loadA rfl rfl rfl (scalT (by decide)) (h := ?_)
             | refine wl_loadSA rfl rfl rfl (aggT (by decide)) (h := ?_))
        | (with_reducible refine atEnd_mk (by kernel_rfl) ?_))
      · go_ret2
        exact .inl ⟨HN.out, rfl, hK.mod⟩
      · go_ret2
        exact .inr (.inl ⟨HM.out, HI.out, rfl, hK.mod⟩)
    · have d0 : decide (i < 0) = false := decide_eq_false (by omega)
      have d1 : decide ((c.robots.l.length : Int) ≤ i) = true := decide_eq_true h1
      go_wp2_with (first
        | ((with_reducible refine wl_at (o := ⟨some 2, .box _ _, _, _, _, _⟩) ?_)
           go_must (refine wl_boxK hK rfl rfl rfl rfl ?_; clear hK; intro w2 b2 hK))
        | (go_at_call 17
           refine (km.out _ (hK.has (by simp)) (hK.has (by simp))).mono ?_
           rintro e w' (⟨hn, rfl, m⟩ | ⟨hm, gp, rfl, hT⟩)
           all_goals first
             | (replace hK := hK.same m; have HN := Lib.hid hn; clear hn m)
             | (replace hK := hK.push1 hT; have HM := Lib.hid hm; clear hm hT))
        | go_big_skip
        | go_big_skip
        | ((with_reducible refine wl_at (o := ⟨_, .load _ _, _, _, _, _⟩) ?_)
           first
             | refine wl_loadK hK rfl rfl rfl (scalT (by decide)) (h := ?_)
             | refine wl_loadSK hK rfl rfl rfl (aggT (by decide)) (h := ?_)
             | refine wl_loadA0 rfl rfl rfl (scalT (by decide)) (h := ?_)
             | refine wl_loadA rfl rfl rfl (scalT (by decide)) (h := ?_)
             | refine wl_loadSA rfl rfl rfl (aggT (by decide)) (h := ?_))
        | (with_reducible refine atEnd_mk (by kernel_rfl) ?_))
      · go_ret2
        exact .inl ⟨HN.out, rfl, hK.mod⟩
      · go_ret2
        exact .inr (.inl ⟨HM.out, HI.out, rfl, hK.mod⟩)
end Go.Proofs.YtcjpnlplibaffaaDoor
