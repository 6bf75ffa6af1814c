/- Robots, plain: which moves may be; what a robot is, hears, ticks, tells. -/
import Derived.Test.YtcjpnlplibaffaaDoorSkKinQ
import Derived.Test.YtcjpnlplibaffaaDoorSkB
set_option linter.all false
namespace Go.Sk
open Go

def dirX (d : Int) : Int := if d = 1 then 1 else if d = 3 then -1 else 0
def dirY (d : Int) : Int := if d = 0 then -1 else if d = 2 then 1 else 0
/-- A pose, n cells further. -/
def shiftP (p : Pose) (d n : Int) : Pose := ⟨⟨RowKit.wrap64 (p.at_.x + n * dirX d), RowKit.wrap64 (p.at_.y + n * dirY d)⟩, p.down⟩
/-- The four cells of a turn. -/
def squareP (x : Cell) : List Cell := [x, ⟨RowKit.wrap64 (x.x + 1), x.y⟩, ⟨x.x, RowKit.wrap64 (x.y + 1)⟩, ⟨RowKit.wrap64 (x.x + 1), RowKit.wrap64 (x.y + 1)⟩]
/-- The first n steps of a run fit. -/
def wayP (c : ConfP) (p : Pose) (d : Int) (n : Nat) : Bool := (List.range n).all fun k => fitsB c (shiftP p d ((k : Int) + 1))
def legalP (c : ConfP) (m : Move) : Bool := fitsB c m.src &&
  (if m.kind = 1 then decide (1 ≤ m.n ∧ m.n ≤ 16) && decide (0 ≤ m.dir ∧ m.dir ≤ 3) && decide (m.dst = shiftP m.src m.dir m.n) && wayP c m.src m.dir m.n.toNat
   else if m.kind = 2 then (squareP m.src.at_).all (openB c) && decide (m.n = 0) && decide (m.dir = 0) && decide (m.dst = ⟨m.src.at_, !m.src.down⟩)
   else if m.kind = 3 ∨ m.kind = 4 then decide (m.n = 0) && decide (m.dir = 0) && decide (m.dst = m.src)
   else false)

def mvZ : Move := ⟨0, 0, 0, ⟨⟨0, 0⟩, false⟩, ⟨⟨0, 0⟩, false⟩, 0, 0⟩
def poseO : Pose := ⟨⟨0, 0⟩, false⟩
/-- A move under way. -/
structure Going where
  move : Move
  t : Int
  left : Int
  cut : Bool
/-- A robot. -/
structure RM where
  pose : Pose
  load : Int
  epoch : Int
  num : Int
  under : Option Going
  stopping : Bool
  delay : Int
def RM.start (p : Pose) : RM := ⟨p, 0, 0, 0, none, false, 0⟩
/-- What it tells. -/
def RM.tell (i : Int) (r : RM) : Tele := if r.num = 0 ∧ 0 < r.epoch then ⟨4, i, r.epoch, 0, mvZ, r.pose, r.load⟩ else ⟨3, i, r.epoch, r.num, mvZ, poseO, 0⟩
/-- a without b, of ticks. -/
def cutP (a : Int) : Int := max 0 (min a 4611686018427387904)
def lessP (a b : Int) : Int := if cutP a = 4611686018427387904 then 4611686018427387904 else max 0 (cutP a - cutP b)
theorem cutP_bd (a : Int) : 0 ≤ cutP a ∧ cutP a ≤ 4611686018427387904 := by unfold cutP; omega
theorem lessP_bd (a b : Int) : 0 ≤ lessP a b ∧ lessP a b ≤ 4611686018427387904 := by
  have := cutP_bd a
  have := cutP_bd b
  unfold lessP
  split <;> omega
theorem lessP_pos {a b : Int} (h : a ≤ b) (hn : lessP a b ≠ 0) : cutP a = 4611686018427387904 := by
  have := cutP_bd a
  have := cutP_bd b
  unfold lessP at hn
  split at hn
  · assumption
  · exfalso
    apply hn
    unfold cutP
    omega
/-- What a go-ahead, a stop, brings: the state, what is answered, how it was taken. -/
def RM.goes (c : ConfP) (i : Int) (r : RM) (t : Tele) : RM × List Tele × Int :=
  if t.epoch < r.epoch then (r, [], 2)
  else if r.epoch < t.epoch ∨ r.under.isSome then (r, [], 0)
  else if 0 < r.num ∧ t.num = r.num then (r, [r.tell i], 0)
  else if t.num = r.num + 1 ∧ t.move.src = r.pose ∧ legalP c t.move = true ∧ lessP t.move.fin t.move.at_ ≠ 0 then ({ r with under := some ⟨t.move, 0, lessP t.move.fin t.move.at_, false⟩ }, [], 1)
  else (r, [], 0)
/-- A run that was not cut yet is cut. -/
def Going.cuts (k : KinP) (u : Going) : Going :=
  if u.move.kind = 1 ∧ u.cut = false then ⟨{ u.move with n := (k.stop u.move.n u.t).1, dst := shiftP u.move.src u.move.dir (k.stop u.move.n u.t).1 }, u.t, max 1 (k.stop u.move.n u.t).2, true⟩ else u
def RM.stops (k : KinP) (i : Int) (r : RM) (e : Int) : RM × List Tele × Int :=
  if e < r.epoch then (r, [], 0)
  else if r.epoch < e then
    match r.under with
    | some u => ({ r with epoch := e, num := 0, stopping := true, under := some (u.cuts k) }, [], 0)
    | none => ({ r with epoch := e, num := 0 }, [({ r with epoch := e, num := 0 } : RM).tell i], 3)
  else if r.epoch = 0 ∨ r.under.isSome ∨ r.num ≠ 0 then (r, [], 0) else (r, [r.tell i], 0)
def RM.hear (c : ConfP) (k : KinP) (i : Int) (r : RM) (t : Tele) : RM × List Tele × Int :=
  if t.robot ≠ i then (r, [], 0)
  else if t.kind = 1 then r.goes c i t
  else if t.kind = 2 then r.stops k i t.epoch
  else (r, [], 0)
/-- A tick: the state, the move that is through, what it brings. -/
def RM.tick (r : RM) : RM × Move × Int :=
  match r.under with
  | none => (r, mvZ, 0)
  | some u =>
    if 0 < r.delay then ({ r with delay := r.delay - 1 }, mvZ, 0)
    else if 0 < u.left - 1 then ({ r with under := some { u with t := u.t + 1, left := u.left - 1 } }, mvZ, 0)
    else if r.stopping then ({ r with pose := u.move.dst, under := none, delay := 0, stopping := false }, u.move, 2)
    else ({ r with pose := u.move.dst, under := none, delay := 0, num := r.num + 1 }, u.move, 1)
def RM.hold (r : RM) (d : Int) : RM := if r.under.isSome ∧ 0 < d then { r with delay := min 1000000 (r.delay + min d 1000000) } else r
def RM.carry (r : RM) (b : Int) : RM := { r with load := b }
def RM.now (r : RM) : Move := match r.under with | some u => u.move | none => mvZ
/-- What holds of a robot through all that comes; n: how much has come. -/
structure RMOk (r : RM) (n : Int) : Prop where
  num : 0 ≤ r.num ∧ r.num ≤ n
  epoch : 0 ≤ r.epoch
  delay : 0 ≤ r.delay ∧ r.delay ≤ 1000000
  going : ∀ u, r.under = some u → 0 ≤ u.t ∧ u.t ≤ n ∧ 1 ≤ u.left ∧ u.left ≤ 4611686018427387904
  still : r.under = none → r.delay = 0 ∧ r.stopping = false
end Go.Sk
