/- awake: a bin is lifted. -/
import Derived.Test.YtngeeilkpnihmaaGreatDoorStC
set_option linter.all false
namespace Go.Proofs.YtngeeilkpnihmaaGreatDoor
open Go Go.Sk Go.RowKit
set_option maxRecDepth 100000

def awkC (r s b : Option Addr) : ConfV := ⟨3, 2, 2, ⟨none, [], 0⟩, ⟨none, [], 0⟩, ⟨r, [⟨⟨0, 1⟩, false⟩], 1⟩, ⟨s, [⟨⟨0, 0⟩, ⟨b, [7, 8], 2⟩⟩], 1⟩, 1, 1, 1, 1, 1, 1, 1, 1, false⟩
def awkP : ConfP := ⟨3, 2, 2, [], [], [⟨⟨0, 1⟩, false⟩], [⟨⟨0, 0⟩, [7, 8]⟩], 1, 1, 1, 1, 1, 1, 1, 1, false⟩
theorem awk_may : MayP awkP where
  nums := by decide +kernel
  ports8 := by decide
  robots8 := by decide
  inside := by decide
  apart := by decide
  beside := by decide +kernel
  fits := by decide +kernel
  homes1 := by decide +kernel
  clear := by decide +kernel
  stacked := by decide +kernel
  stacks1 := by decide
  bins := by decide +kernel
  bins1 := by decide +kernel
  bins512 := by decide
def awkM : SM := SM.start awkP
theorem awk_find : findV (awkM.find awkP 7) = .tuple #[.agg (Cell.mk 0 0).cells.toArray, .int .i64 1, .bool true] := by
  have : awkM.find awkP 7 = some (⟨0, 0⟩, 1) := by decide +kernel
  rw [this]
  rfl
theorem awk_liftV : awkM.liftV awkP 0 ⟨0, 0⟩ = 8 := by decide +kernel
theorem awk_liftE : awkM.liftE awkP 0 ⟨0, 0⟩ = 0 := by decide +kernel
theorem awk_top : (awkM.lift awkP 0 ⟨0, 0⟩).top awkP ⟨0, 0⟩ = 7 := by decide +kernel
theorem awk_load : (awkM.lift awkP 0 ⟨0, 0⟩).load 0 = 8 := by decide +kernel

theorem awk_has {r s b : Option Addr} {w : World} (h1 : Has w (rOw 36 elPose (.slice r 1 1) [(⟨⟨0, 1⟩, false⟩ : Pose)])) (h2 : Has w (rOw 3 elInt (.slice b 2 2) [7, 8])) (h3 : Has w (rOw 85 elStack (.slice s 1 1) [(⟨⟨0, 0⟩, ⟨b, [7, 8], 2⟩⟩ : StackV)])) : Has w (rConf (awkC r s b)) := by
  refine Has.all.2 fun x hx => ?_
  simp only [List.mem_cons, List.not_mem_nil, or_false] at hx
  rcases hx with rfl | rfl | rfl | rfl
  · exact (Rd.nil w elCell).has
  · exact (Rd.nil w elCell).has
  · exact h1.ord.has
  · refine Has.two.2 ⟨h3.ord.has, Has.all.2 fun x hx => ?_⟩
    obtain ⟨y, hy, rfl⟩ := List.mem_map.1 hx
    simp only [awkC, List.mem_singleton] at hy
    subst hy
    exact h2.ord.has
theorem awk_sized (r s b : Option Addr) : Sized (awkC r s b) := by
  refine ⟨by simp [awkC], by simp [awkC], by simp [awkC], by simp [awkC], fun x hx => ?_⟩
  simp only [awkC, List.mem_singleton] at hx
  subst hx
  simp
theorem awk_wf (r s b : Option Addr) : ∀ p ∈ (awkC r s b).robots.l, PoseWf p := by
  intro x hx
  simp only [awkC, List.mem_singleton] at hx
  subst hx
  exact ⟨by decide, by decide⟩

end Go.Proofs.YtngeeilkpnihmaaGreatDoor
