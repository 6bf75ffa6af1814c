/- The world, plain: what it hears, what a tick brings, what is seen. -/
import Derived.Test.YtngeeilkpnihmaaGreatDoorStC
import Derived.Test.YtngeeilkpnihmaaGreatDoorRbA
import Derived.Test.YtngeeilkpnihmaaGreatDoorSkSightQ
set_option linter.all false
namespace Go.Proofs.YtngeeilkpnihmaaGreatDoor
open Go Go.Sk Go.RowKit
set_option maxRecDepth 100000

/-- What is really there: the bins, the robots, the time, what was seen. -/
structure WM where
  s : SM
  rs : List RM
  now : Int
  l : List Sight
def WM.start (c : ConfP) : WM := ⟨SM.start c, c.robots.map RM.start, 0, []⟩
/-- A sight, ahead of its robot's name, the time and the pose. -/
structure Seen where
  kind : Int
  bin : Int
  move : Go.Sk.Move
def Seen.at (x : Seen) (now : Int) (i : Nat) (p : Pose) : Sight := ⟨x.kind, now, i, x.bin, p, x.move⟩
def WM.see (w : WM) (i : Nat) (p : Pose) (xs : List Seen) : WM := { w with l := w.l ++ xs.map fun x => x.at w.now i p }
def heardS (how : Int) (m : Go.Sk.Move) : List Seen := if how = 1 then [⟨1, 0, m⟩] else if how = 2 then [⟨7, 0, mvZ⟩] else if how = 3 then [⟨3, 0, mvZ⟩] else []
def WM.hear (c : ConfP) (w : WM) (t : Tele) : WM × List Tele :=
  if 0 ≤ t.robot then
    match w.rs[t.robot.toNat]? with
    | some r => (({ w with rs := w.rs.set t.robot.toNat (r.hear c (kinOf c) t.robot t).1 } : WM).see t.robot.toNat (r.hear c (kinOf c) t.robot t).1.pose (heardS (r.hear c (kinOf c) t.robot t).2.2 (r.hear c (kinOf c) t.robot t).1.now), (r.hear c (kinOf c) t.robot t).2.1)
    | none => (w, [])
  else (w, [])
/-- A Lift or Drop is done: the bins, the robot, what is seen. -/
def hoistW (c : ConfP) (s : SM) (i : Nat) (r : RM) (kind : Int) : SM × RM × List Seen :=
  if kind = 3 then
    if s.liftE c i r.pose.at_ = 0 then (s.lift c i r.pose.at_, r.carry (s.liftV c i r.pose.at_), [⟨4, s.liftV c i r.pose.at_, mvZ⟩]) else (s, r, [⟨8, 0, mvZ⟩])
  else
    if s.dropE c i r.pose.at_ = 0 then (s.drop c i r.pose.at_, r.carry 0, ⟨5, s.load i, mvZ⟩ :: (if 0 ≤ portOf c r.pose.at_ then [⟨6, s.load i, mvZ⟩] else [])) else (s, r, [⟨8, 0, mvZ⟩])
/-- One robot's tick: the bins, the robot, what is seen, what is told. -/
def tickW (c : ConfP) (s : SM) (i : Nat) (r : RM) : SM × RM × List Seen × List Tele :=
  if r.tick.2.2 = 0 then (s, r.tick.1, [], [])
  else if r.tick.2.1.kind = 3 ∨ r.tick.2.1.kind = 4 then
    ((hoistW c s i r.tick.1 r.tick.2.1.kind).1, (hoistW c s i r.tick.1 r.tick.2.1.kind).2.1, (hoistW c s i r.tick.1 r.tick.2.1.kind).2.2 ++ (⟨2, 0, r.tick.2.1⟩ :: if r.tick.2.2 = 2 then [⟨3, 0, mvZ⟩] else []), [(hoistW c s i r.tick.1 r.tick.2.1.kind).2.1.tell i])
  else (s, r.tick.1, ⟨2, 0, r.tick.2.1⟩ :: (if r.tick.2.2 = 2 then [⟨3, 0, mvZ⟩] else []), [r.tick.1.tell i])
/-- The first n robots' ticks. -/
def WM.ticks (c : ConfP) (w : WM) : Nat → WM × List Tele
  | 0 => ({ w with now := w.now + 1 }, [])
  | n + 1 =>
    match (w.ticks c n).1.rs[n]? with
    | some r => ((({ (w.ticks c n).1 with s := (tickW c (w.ticks c n).1.s n r).1, rs := (w.ticks c n).1.rs.set n (tickW c (w.ticks c n).1.s n r).2.1 } : WM).see n r.tick.1.pose (tickW c (w.ticks c n).1.s n r).2.2.1), (w.ticks c n).2 ++ (tickW c (w.ticks c n).1.s n r).2.2.2)
    | none => w.ticks c n
def WM.tick (c : ConfP) (w : WM) : WM × List Tele := w.ticks c w.rs.length

/-- The robots, one behind the other, by their blocks. -/
def robsW (c : ConfP) (ps : List Nat) (rs : List RM) : List Res := (List.range rs.length).map fun (i : Nat) => rROB c (i : Int) (ps.getD i 0) (rs.getD i (RM.start poseO))
def wdCells (gp sp : Nat) (ra : Option Addr) (n rc : Nat) (now : Int) (sa : Option Addr) (k sc : Nat) : List Value := [.pointer (some ⟨gp, 0, none⟩), .pointer (some ⟨sp, 0, none⟩), .slice ra n rc, .int .i64 now, .slice sa k sc]
/-- A world's things. -/
def rWd (c : ConfP) (wp gp sp : Nat) (ra : Option Addr) (rc : Nat) (ps : List Nat) (sa : Option Addr) (sc : Nat) (m : WM) : List Res :=
  [rBlk wp (wdCells gp sp ra ps.length rc m.now sa m.l.length sc) 80, rGRID c gp, rSTK c sp m.s, rMany (robsW c ps m.rs), rOw 81 elPtr (.slice ra ps.length rc) ps, rOw 43 elSight (.slice sa m.l.length sc) m.l]
@[irreducible] def rWLD (c : ConfP) (wp : Nat) (m : WM) : Res where
  p w S := ∃ gp sp ra rc ps sa sc, ps.length = m.rs.length ∧ Sep w (rWd c wp gp sp ra rc ps sa sc m) S
  loc := by rintro w w' S ⟨a, b, d, e, f, g, h, h1, h2⟩ he; exact ⟨a, b, d, e, f, g, h, h1, h2.loc he⟩
  lt := by rintro w S ⟨_, _, _, _, _, _, _, _, h⟩; exact h.lt
theorem rWLD_p {c : ConfP} {wp : Nat} {m : WM} {w : World} {S : Nat → Prop} : (rWLD c wp m).p w S ↔ ∃ gp sp ra rc ps sa sc, ps.length = m.rs.length ∧ Sep w (rWd c wp gp sp ra rc ps sa sc m) S := by unfold rWLD; exact Iff.rfl
theorem Know.wld {c : ConfP} {wp : Nat} {m : WM} {w : World} {S : Nat → Prop} {L : List Res} (h : Know w w S [rWLD c wp m] L) : ∃ gp sp ra rc ps sa sc, ps.length = m.rs.length ∧ Know w w S (rWd c wp gp sp ra rc ps sa sc m) L := by
  obtain ⟨hm, U, ⟨S1, V, h1, h2, h3, h4⟩, h5, h6⟩ := h
  obtain ⟨gp, sp, ra, rc, ps, sa, sc, hl, k⟩ := rWLD_p.1 h1
  have hU : ∀ b, U b ↔ S1 b := fun b => (h4 b).trans ⟨fun h => h.resolve_right (h2 b), .inl⟩
  exact ⟨gp, sp, ra, rc, ps, sa, sc, hl, hm, S1, k, fun b hb => h5 b ((hU b).2 hb), fun r hr => by
    obtain ⟨T, i1, i2⟩ := h6 r hr
    exact ⟨T, i1, fun b hb hs => i2 b hb ((hU b).2 hs)⟩⟩
theorem Turns.wld {c : ConfP} {wp gp sp : Nat} {ra : Option Addr} {rc : Nat} {ps : List Nat} {sa : Option Addr} {sc : Nat} {m : WM} {w w' : World} {S : Nat → Prop} (hl : ps.length = m.rs.length) (h : Turns (rWd c wp gp sp ra rc ps sa sc m) w w' S) : Turn (rWLD c wp m) w w' S := by
  obtain ⟨h1, S', h2, h3⟩ := h
  exact ⟨h1, S', rWLD_p.2 ⟨gp, sp, ra, rc, ps, sa, sc, hl, h2⟩, h3⟩
theorem robsW_at {c : ConfP} {ps : List Nat} {rs : List RM} {i p : Nat} {r : RM} (hr : rs[i]? = some r) (hp : ps[i]? = some p) : (robsW c ps rs)[i]? = some (rROB c i p r) := by
  have h1 : i < rs.length := (List.getElem?_eq_some_iff.1 hr).1
  unfold robsW
  rw [List.getElem?_map, List.getElem?_range h1, Option.map_some, List.getD_eq_getElem?_getD, List.getD_eq_getElem?_getD, hr, hp]
  rfl
theorem robsW_set {c : ConfP} {ps : List Nat} {rs : List RM} {i p : Nat} {r : RM} (hi : i < rs.length) (hp : ps[i]? = some p) : (robsW c ps rs).set i (rROB c i p r) = robsW c ps (rs.set i r) := by
  apply List.ext_getElem?
  intro j
  unfold robsW
  rw [List.getElem?_set, List.length_map, List.length_range, List.length_set]
  by_cases hj : i = j
  · subst hj
    rw [if_pos rfl, if_pos hi, List.getElem?_map, List.getElem?_range hi, Option.map_some, List.getD_eq_getElem?_getD, List.getD_eq_getElem?_getD, hp, List.getElem?_set_self hi]
    rfl
  · rw [if_neg hj, List.getElem?_map, List.getElem?_map]
    cases hx : (List.range rs.length)[j]? with
    | none => rfl
    | some y =>
      have hy : y = j := by
        have h2 := List.getElem?_eq_some_iff.1 hx
        obtain ⟨h3, h4⟩ := h2
        simpa using h4.symm
      subst hy
      rw [Option.map_some, Option.map_some, List.getD_eq_getElem?_getD (l := rs.set i r), List.getElem?_set_ne hj, ← List.getD_eq_getElem?_getD]
theorem robsW_len (c : ConfP) (ps : List Nat) (rs : List RM) : (robsW c ps rs).length = rs.length := by unfold robsW; rw [List.length_map, List.length_range]
end Go.Proofs.YtngeeilkpnihmaaGreatDoor
