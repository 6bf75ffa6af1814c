/- What is seen: its cells. -/
import Derived.Test.YtngeeilkpnihmaaGreatDoorSkD
set_option linter.all false
namespace Go.Sk
open Go

/-- What is seen. -/
structure Sight where
  kind : Int
  tick : Int
  robot : Int
  bin : Int
  pose : Pose
  move : Move
def Sight.cells (s : Sight) : List Value := [.int .i64 s.kind, .int .i64 s.tick, .int .i64 s.robot, .int .i64 s.bin] ++ s.pose.cells ++ s.move.cells
def sightKs : List (Option IntKind) := [some .i64, some .i64, some .i64, some .i64] ++ poseKs ++ moveKs
theorem Sight.ks (c : Sight) : ofKinds sightKs c.cells = true := rfl
abbrev elSight : El Sight := ⟨Sight.cells, 18, fun _ => rfl, fun x => ofKinds_one _ _ x.ks⟩
def Sight.zero : Sight := ⟨0, 0, 0, 0, poseO, mvZ⟩
/-- Robots, by their blocks. -/
abbrev elPtr : El Nat := ⟨fun p => [.pointer (some ⟨p, 0, none⟩)], 1, fun _ => rfl, fun x v hv => by
  simp only [List.mem_singleton] at hv
  subst hv
  rfl⟩
end Go.Sk
