/- WorldBad, plain: its configs, and what comes. -/
import Derived.Test.YtngeeilkpnihmaaGreatDoorWb1Q
import Derived.Test.YtngeeilkpnihmaaGreatDoorWd9Q
set_option linter.all false
namespace Go.Proofs.YtngeeilkpnihmaaGreatDoor
open Go Go.Sk Go.RowKit
set_option maxRecDepth 100000

def wbP (k : Bool) (h : Int) : ConfP := ⟨4, 1, 1, [], [], [poseO], if k then [] else [⟨⟨2, 0⟩, [7]⟩], 1, 1, 1, 1, h, 1, 1, 1, false⟩
def wbV (k : Bool) (h : Int) (r s b : Option Addr) : ConfV := ⟨4, 1, 1, ⟨none, [], 0⟩, ⟨none, [], 0⟩, ⟨r, [poseO], 1⟩, if k then ⟨none, [], 0⟩ else ⟨s, [⟨⟨2, 0⟩, ⟨b, [7], 1⟩⟩], 1⟩, 1, 1, 1, 1, h, 1, 1, 1, false⟩
theorem wb_p (k : Bool) (h : Int) (r s b : Option Addr) : (wbV k h r s b).p = wbP k h := by cases k <;> rfl
theorem wb_may0 : ∀ (k : Bool) (h : Fin 20), MayP (wbP k (1 + (h.val : Int))) := by
  intro k h
  exact {
    nums := by revert k h; decide +kernel
    ports8 := by revert k h; decide +kernel
    robots8 := by revert k h; decide +kernel
    inside := by revert k h; decide +kernel
    apart := by revert k h; decide +kernel
    beside := by revert k h; decide +kernel
    fits := by revert k h; decide +kernel
    homes1 := by revert k h; decide +kernel
    clear := by revert k h; decide +kernel
    stacked := by revert k h; decide +kernel
    stacks1 := by revert k h; decide +kernel
    bins := by revert k h; decide +kernel
    bins1 := by revert k h; decide +kernel
    bins512 := by revert k h; decide +kernel }
def wbM (k : Bool) (h : Int) : Go.Sk.Move := ⟨if k then 3 else 4, 0, 0, poseO, poseO, 0, h⟩
def wbT (k : Bool) (h : Int) : Tele := ⟨1, 0, 0, 1, wbM k h, poseO, 0⟩
def wb0 (k : Bool) (h : Int) : WM := WM.start (wbP k h)
def wb1 (k : Bool) (h : Int) : Nat → WM
  | 0 => ((wb0 k h).hear (wbP k h) (wbT k h)).1
  | n + 1 => ((wb1 k h n).tick (wbP k h)).1
theorem wb_mid0 : ∀ (k : Bool) (h : Fin 20) (n : Fin 21), (wb1 k (1 + (h.val : Int)) n.val).l.length ≤ 90000000 ∧ (wb1 k (1 + (h.val : Int)) n.val).rs.length ≤ 64 ∧ 0 ≤ (wb1 k (1 + (h.val : Int)) n.val).now ∧ (wb1 k (1 + (h.val : Int)) n.val).now ≤ 1000000000 := by decide +kernel
theorem wb_end0 : ∀ (k : Bool) (h : Fin 20), (wb1 k (1 + (h.val : Int)) (h.val + 1)).l.map (fun x => (x.kind, x.bin)) = [(1, 0), (8, 0), (2, 0)] ∧ (wb1 k (1 + (h.val : Int)) (h.val + 1)).rs.map (fun r => r.load) = [0] ∧ (wb1 k (1 + (h.val : Int)) (h.val + 1)).s.bins (wbP k (1 + (h.val : Int))) = (wb0 k (1 + (h.val : Int))).s.bins (wbP k (1 + (h.val : Int))) ∧ ((wb0 k (1 + (h.val : Int))).s.bins (wbP k (1 + (h.val : Int)))).length ≤ 1000 := by decide +kernel
theorem wb_ok0 (k : Bool) (h : Int) : WOk (wbP k h) (wb0 k h) 0 := by
  intro i r hr
  have : [RM.start poseO][i]? = some r := hr
  match i, this with
  | 0, h => injection h with h; subst h; exact RMOk.start ⟨by decide, by decide⟩
theorem wb_ok1 {k : Bool} {h : Int} (hm : MayP (wbP k h)) : ∀ n : Nat, WOk (wbP k h) (wb1 k h n) ((n : Int) + 1)
  | 0 => by
    have := (wb_ok0 k h).hear (t := wbT k h) hm (by omega)
    exact this
  | n + 1 => by
    have := (wb_ok1 hm n).tick
    rw [show ((n + 1 : Nat) : Int) + 1 = ((n : Int) + 1) + 1 by omega]
    exact this
theorem wb_has {k : Bool} {h : Int} {r s b : Option Addr} {w : World} (h1 : Has w (rOw 36 elPose (.slice r 1 1) [poseO])) (h2 : Has w (rOw 3 elInt (.slice b 1 1) [7])) (h3 : Has w (rOw 85 elStack (.slice s 1 1) [(⟨⟨2, 0⟩, ⟨b, [7], 1⟩⟩ : StackV)])) : Has w (rConf (wbV k h r s b)) := by
  refine Has.all.2 fun x hx => ?_
  simp only [List.mem_cons, List.not_mem_nil, or_false] at hx
  rcases hx with rfl | rfl | rfl | rfl
  · exact (Rd.nil w elCell).has
  · exact (Rd.nil w elCell).has
  · exact h1.ord.has
  · cases k
    · refine Has.two.2 ⟨h3.ord.has, Has.all.2 fun x hx => ?_⟩
      obtain ⟨y, hy, rfl⟩ := List.mem_map.1 hx
      have : y = ⟨⟨2, 0⟩, ⟨b, [7], 1⟩⟩ := by simpa [wbV] using hy
      subst this
      exact h2.ord.has
    · refine Has.two.2 ⟨(Rd.nil w elStack).has, Has.all.2 fun x hx => ?_⟩
      obtain ⟨y, hy, _⟩ := List.mem_map.1 hx
      simp [wbV] at hy
theorem wb_sized (k : Bool) (h : Int) (r s b : Option Addr) : Sized (wbV k h r s b) := ⟨by simp [wbV], by simp [wbV], by simp [wbV], by cases k <;> simp [wbV], fun x hx => by
  cases k
  · have : x = ⟨⟨2, 0⟩, ⟨b, [7], 1⟩⟩ := by simpa [wbV] using hx
    subst this
    simp
  · simp [wbV] at hx⟩
theorem wb_wf (k : Bool) (h : Int) (r s b : Option Addr) : ∀ p ∈ (wbV k h r s b).robots.l, PoseWf p := by
  intro x hx
  simp only [wbV, List.mem_singleton] at hx
  subst hx
  exact ⟨by decide, by decide⟩
end Go.Proofs.YtngeeilkpnihmaaGreatDoor
