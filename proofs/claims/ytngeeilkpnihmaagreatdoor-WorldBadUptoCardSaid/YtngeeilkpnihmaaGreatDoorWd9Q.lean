/- The world's laws: their config, and that the world is awake. -/
import Derived.Test.YtngeeilkpnihmaaGreatDoorWd4Q
import Derived.Test.YtngeeilkpnihmaaGreatDoorWd6Q
import Derived.Test.YtngeeilkpnihmaaGreatDoorWd7Q
import Derived.Test.YtngeeilkpnihmaaGreatDoorWd8Q
set_option linter.all false
namespace Go.Proofs.YtngeeilkpnihmaaGreatDoor
open Go Go.Sk Go.RowKit
set_option maxRecDepth 100000

/-- What holds of a world's robots through all that comes. -/
def WOk (c : ConfP) (m : WM) (n : Int) : Prop := ∀ (i : Nat) r, m.rs[i]? = some r → RMOk c r n
theorem WOk.set {c : ConfP} {m : WM} {n n' : Int} {i : Nat} {r : RM} {rs : List RM} (h : WOk c m n) (hn : n ≤ n') (he : rs = m.rs.set i r) (hr : RMOk c r n') : ∀ (j : Nat) r', rs[j]? = some r' → RMOk c r' n' := by
  subst he
  intro j r' hj
  by_cases hij : i = j
  · subst hij
    by_cases hl : i < m.rs.length
    · rw [List.getElem?_set_self hl] at hj
      injection hj with hj
      subst hj
      exact hr
    · rw [List.getElem?_eq_none (by rw [List.length_set]; omega)] at hj
      cases hj
  · rw [List.getElem?_set_ne hij] at hj
    exact (h j r' hj).more hn
theorem WOk.hear {c : ConfP} {m : WM} {n : Int} {t : Tele} (hm : MayP c) (h : WOk c m n) (hn : 0 ≤ n) : WOk c (m.hear c t).1 (n + 1) := by
  unfold WM.hear
  split
  · split
    · rename_i r hr
      exact h.set (by omega) rfl (RMOk.hear (kinOf_ok hm) (h _ r hr) hn)
    · exact fun i r hr => (h i r hr).more (by omega)
  · exact fun i r hr => (h i r hr).more (by omega)
theorem hoist_ok {c : ConfP} {s : SM} {i : Nat} {r : RM} {k n : Int} (h : RMOk c r n) : RMOk c (hoistW c s i r k).2.1 n := by
  unfold hoistW
  repeat' split
  all_goals first | exact h | exact h.carry
theorem tickW_ok {c : ConfP} {s : SM} {i : Nat} {r : RM} {n : Int} (h : RMOk c r n) : RMOk c (tickW c s i r).2.1 (n + 1) := by
  unfold tickW
  repeat' split
  all_goals first | exact h.tick | exact hoist_ok h.tick
theorem WOk.ticks {c : ConfP} {m : WM} {n : Int} (h : WOk c m n) : ∀ j : Nat, WOk c (m.ticks c j).1 (n + 1)
  | 0 => fun i r hr => (h i r hr).more (by omega)
  | j + 1 => by
    have ih := WOk.ticks h j
    rw [WM.ticks]
    split
    · rename_i r hr
      have hj : m.rs[j]? = some r := by
        by_cases hl : j ≤ m.rs.length
        · rw [(ticks_is (c := c) m j hl).2.2.1 j (Nat.le_refl _)] at hr; exact hr
        · have hlen : ∀ k, (m.ticks c k).1.rs.length = m.rs.length := by
            intro k
            induction k with
            | zero => rfl
            | succ k ihk =>
              rw [WM.ticks]
              split
              · show ((m.ticks c k).1.rs.set k _).length = _; rw [List.length_set, ihk]
              · exact ihk
          have := (List.getElem?_eq_some_iff.1 hr).1
          rw [hlen] at this
          omega
      exact WOk.set ih (Int.le_refl _) rfl (tickW_ok (h j r hj))
    · exact ih
theorem WOk.tick {c : ConfP} {m : WM} {n : Int} (h : WOk c m n) : WOk c (m.tick c).1 (n + 1) := WOk.ticks h _

def w9V (r s b : Option Addr) : ConfV := ⟨4, 1, 1, ⟨none, [], 0⟩, ⟨none, [], 0⟩, ⟨r, [poseO], 1⟩, ⟨s, [⟨⟨2, 0⟩, ⟨b, [7], 1⟩⟩], 1⟩, 1, 1, 1, 1, 2, 1, 1, 1, false⟩
def w9P : ConfP := ⟨4, 1, 1, [], [], [poseO], [⟨⟨2, 0⟩, [7]⟩], 1, 1, 1, 1, 2, 1, 1, 1, false⟩
theorem w9_may : MayP w9P where
  nums := by decide +kernel
  ports8 := by decide
  robots8 := by decide
  inside := by decide
  apart := by decide
  beside := by decide +kernel
  fits := by decide +kernel
  homes1 := by decide +kernel
  clear := by decide +kernel
  stacked := by decide +kernel
  stacks1 := by decide
  bins := by decide +kernel
  bins1 := by decide +kernel
  bins512 := by decide
theorem w9_has {r s b : Option Addr} {w : World} (h1 : Has w (rOw 36 elPose (.slice r 1 1) [poseO])) (h2 : Has w (rOw 3 elInt (.slice b 1 1) [7])) (h3 : Has w (rOw 85 elStack (.slice s 1 1) [(⟨⟨2, 0⟩, ⟨b, [7], 1⟩⟩ : StackV)])) : Has w (rConf (w9V r s b)) := by
  refine Has.all.2 fun x hx => ?_
  simp only [List.mem_cons, List.not_mem_nil, or_false] at hx
  rcases hx with rfl | rfl | rfl | rfl
  · exact (Rd.nil w elCell).has
  · exact (Rd.nil w elCell).has
  · exact h1.ord.has
  · refine Has.two.2 ⟨h3.ord.has, Has.all.2 fun x hx => ?_⟩
    obtain ⟨y, hy, rfl⟩ := List.mem_map.1 hx
    have : y = ⟨⟨2, 0⟩, ⟨b, [7], 1⟩⟩ := by simpa [w9V] using hy
    subst this
    exact h2.ord.has
theorem w9_sized (r s b : Option Addr) : Sized (w9V r s b) := ⟨by simp [w9V], by simp [w9V], by simp [w9V], by simp [w9V], fun x hx => by
  have : x = ⟨⟨2, 0⟩, ⟨b, [7], 1⟩⟩ := by simpa [w9V] using hx
  subst this
  simp⟩
theorem w9_wf (r s b : Option Addr) : ∀ p ∈ (w9V r s b).robots.l, PoseWf p := by
  intro x hx
  simp only [w9V, List.mem_singleton] at hx
  subst hx
  exact ⟨by decide, by decide⟩
def confZ19 : List Value := [.int .i64 0, .int .i64 0, .int .i64 0, .slice none 0 0, .slice none 0 0, .slice none 0 0, .slice none 0 0, .int .i64 0, .int .i64 0, .int .i64 0, .int .i64 0, .int .i64 0, .int .i64 0, .int .i64 0, .int .i64 0, .bool false]
theorem w9_one (r s b : Option Addr) : ∀ v ∈ (w9V r s b).cells, v.oneCell' = true := by
  intro v hv
  simp only [ConfV.cells, List.mem_cons, List.not_mem_nil, or_false] at hv
  rcases hv with rfl | rfl | rfl | rfl | rfl | rfl | rfl | rfl | rfl | rfl | rfl | rfl | rfl | rfl | rfl | rfl <;> rfl
set_option maxHeartbeats 1000000 in
theorem w9_conf {w : World} : Calls Tryz.prog 14 #[] w fun e w' => ∃ r s b, e = .returned (.agg (w9V r s b).cells.toArray) ∧ Turns [rOw 85 elStack (.slice s 1 1) [(⟨⟨2, 0⟩, ⟨b, [7], 1⟩⟩ : StackV)], rOw 3 elInt (.slice b 1 1) [7], rOw 36 elPose (.slice r 1 1) [poseO]] w w' none' := by
  have hK : Know w w none' [] [] := Know.start (L := []) w (by simp)
  go_enter Tryz.func14, Tryz.ntmps14
  go_wp2_with (first
    | ((with_reducible refine wl_at (o := ⟨some 0, .alloc _, _, _, _, _⟩) ?_)
       go_must (refine wl_allocK (z := .agg (confZ19).toArray) (zs := confZ19) hK rfl rfl (by kernel_rfl) rfl ?_; clear hK; intro w0 b0 hK))
    | ((with_reducible refine wl_at (o := ⟨some 2, _, _, _, _, _⟩) ?_); go_must (refine wl_buildK 36 elPose [poseO] hK rfl rfl (fun W => by kernel_rfl) rfl (by decide) ?_; clear hK; intro ad2 w2 hK))
    | ((with_reducible refine wl_at (o := ⟨some 4, _, _, _, _, _⟩) ?_); go_must (refine wl_buildK 3 elInt [7] hK rfl rfl (fun W => by kernel_rfl) rfl (by decide) ?_; clear hK; intro ad4 w4 hK))
    | ((with_reducible refine wl_at (o := ⟨some 5, _, _, _, _, _⟩) ?_); go_must (refine wl_pure (v := .agg (StackV.cells ⟨⟨2, 0⟩, ⟨ad4, [7], 1⟩⟩).toArray) rfl (fun W => by kernel_rfl) ?_))
    | ((with_reducible refine wl_at (o := ⟨some 6, _, _, _, _, _⟩) ?_); go_must (refine wl_buildK 85 elStack [(⟨⟨2, 0⟩, ⟨ad4, [7], 1⟩⟩ : StackV)] hK rfl rfl (fun W => by kernel_rfl) rfl (by decide) ?_; clear hK; intro ad6 w6 hK))
    | ((with_reducible refine wl_at (o := ⟨some 7, _, _, _, _, _⟩) ?_); go_must (refine wl_pure (v := .agg (ConfV.cells (w9V ad2 ad6 ad4)).toArray) rfl (fun W => by kernel_rfl) ?_))
    | ((with_reducible refine wl_at (o := ⟨none, .store 26 _ _, _, _, _, _⟩) ?_)
       go_must (refine wl_storeWK (vs := ConfV.cells (w9V ad2 ad6 ad4)) hK rfl rfl rfl rfl (aggS (by decide)) (w9_one _ _ _) (h := ?_); clear hK; intro w' hK; simp only [List.set_cons_zero, List.set_cons_succ] at hK))
    | go_big_skip
    | ((with_reducible refine wl_at (o := ⟨_, .load _ _, _, _, _, _⟩) ?_)
       first
         | refine wl_loadK hK rfl rfl rfl (scalT (by decide)) (h := ?_)
         | refine wl_loadSK hK rfl rfl rfl (aggT (by decide)) (h := ?_)
         | refine wl_loadA0 rfl rfl rfl (scalT (by decide)) (h := ?_)
         | refine wl_loadA rfl rfl rfl (scalT (by decide)) (h := ?_)
         | refine wl_loadSA rfl rfl rfl (aggT (by decide)) (h := ?_))
    | (with_reducible refine atEnd_mk (by kernel_rfl) ?_))
  exact bodyPost_ret (res_cellS rfl _ rfl (aggT (by decide)) rfl (hK.blk (b := b0) (cs := (w9V ad2 ad6 ad4).cells)).at0) rfl ⟨ad2, ad6, ad4, rfl, (hK.sub (.cons_cons _ (.cons_cons _ (.cons_cons _ (.cons _ .slnil))))).turns⟩

/-! what comes in awake -/
def aw0 : WM := WM.start w9P
def aw1 : WM := (aw0.hear w9P ⟨1, 0, 0, 1, ⟨1, 1, 2, poseO, ⟨⟨2, 0⟩, false⟩, 0, 2⟩, poseO, 0⟩).1
def aw2 : WM := (aw1.tick w9P).1
def aw3 : WM := (aw2.tick w9P).1
def aw4 : WM := (aw3.hear w9P ⟨1, 0, 0, 2, ⟨3, 0, 0, ⟨⟨2, 0⟩, false⟩, ⟨⟨2, 0⟩, false⟩, 0, 2⟩, poseO, 0⟩).1
def aw5 : WM := (aw4.tick w9P).1
def aw6 : WM × List Tele := aw5.tick w9P
theorem aw6_is : aw6.2.map (fun t => (t.kind, t.num)) = [(3, 2)] ∧ aw6.1.l.map (fun x => (x.kind, x.bin)) = [(1, 0), (2, 0), (1, 0), (4, 7), (2, 0)] ∧ aw6.1.now = 4 := ⟨by kernel_rfl, by kernel_rfl, by kernel_rfl⟩
end Go.Proofs.YtngeeilkpnihmaaGreatDoor
