/- The program's plain data: cells, poses, moves, telegrams, as Lean structures, and the cells that they lie in. -/
import Derived.Test.YthbhbklbhfadnaaSkEq
namespace Go.Sk
open Go

abbrev I (n : Int) : Value := .int .i64 n

structure Cell where
  x : Int
  y : Int
  deriving DecidableEq
structure Pose where
  at_ : Cell
  down : Bool
  deriving DecidableEq
structure Move where
  kind : Int
  dir : Int
  n : Int
  src : Pose
  dst : Pose
  at_ : Int
  fin : Int
  deriving DecidableEq
structure Tele where
  kind : Int
  robot : Int
  epoch : Int
  num : Int
  move : Move
  pose : Pose
  load : Int
  deriving DecidableEq

def Cell.cells (c : Cell) : List Value := [.int .i64 c.x, .int .i64 c.y]
def Pose.cells (p : Pose) : List Value := [.int .i64 p.at_.x, .int .i64 p.at_.y, .bool p.down]
def Move.cells (m : Move) : List Value := [.int .i64 m.kind, .int .i64 m.dir, .int .i64 m.n, .int .i64 m.src.at_.x, .int .i64 m.src.at_.y, .bool m.src.down, .int .i64 m.dst.at_.x, .int .i64 m.dst.at_.y, .bool m.dst.down, .int .i64 m.at_, .int .i64 m.fin]
def Tele.cells (t : Tele) : List Value := [.int .i64 t.kind, .int .i64 t.robot, .int .i64 t.epoch, .int .i64 t.num,
  .int .i64 t.move.kind, .int .i64 t.move.dir, .int .i64 t.move.n, .int .i64 t.move.src.at_.x, .int .i64 t.move.src.at_.y, .bool t.move.src.down, .int .i64 t.move.dst.at_.x, .int .i64 t.move.dst.at_.y, .bool t.move.dst.down, .int .i64 t.move.at_, .int .i64 t.move.fin,
  .int .i64 t.pose.at_.x, .int .i64 t.pose.at_.y, .bool t.pose.down, .int .i64 t.load]

def kI : Option IntKind := some .i64
def kB : Option IntKind := none
def cellKs : List (Option IntKind) := [kI, kI]
def poseKs : List (Option IntKind) := [kI, kI, kB]
def moveKs : List (Option IntKind) := [kI, kI, kI, kI, kI, kB, kI, kI, kB, kI, kI]
def teleKs : List (Option IntKind) := [kI, kI, kI, kI, kI, kI, kI, kI, kI, kB, kI, kI, kB, kI, kI, kI, kI, kB, kI]

theorem Cell.ks (c : Cell) : ofKinds cellKs c.cells = true := rfl
theorem Pose.ks (c : Pose) : ofKinds poseKs c.cells = true := rfl
theorem Move.ks (c : Move) : ofKinds moveKs c.cells = true := rfl
theorem Tele.ks (c : Tele) : ofKinds teleKs c.cells = true := rfl
theorem Cell.eq (a b : Cell) : cellsEq a.cells b.cells = decide (a = b) := by
  obtain ⟨x, y⟩ := a; obtain ⟨x', y'⟩ := b
  rw [Bool.eq_iff_iff]
  simp [Cell.cells, cellsEq, cellEq]
theorem Pose.eq (a b : Pose) : cellsEq a.cells b.cells = decide (a = b) := by
  obtain ⟨⟨x, y⟩, d⟩ := a; obtain ⟨⟨x', y'⟩, d'⟩ := b
  rw [Bool.eq_iff_iff]
  simp [Pose.cells, cellsEq, cellEq, and_assoc]
theorem Move.eq (a b : Move) : cellsEq a.cells b.cells = decide (a = b) := by
  obtain ⟨k, d, n, ⟨⟨x, y⟩, e⟩, ⟨⟨z, u⟩, f⟩, at1, e1⟩ := a; obtain ⟨k', d', n', ⟨⟨x', y'⟩, e'⟩, ⟨⟨z', u'⟩, f'⟩, at1', e1'⟩ := b
  rw [Bool.eq_iff_iff]
  simp [Move.cells, cellsEq, cellEq, and_assoc]
theorem Tele.eq (a b : Tele) : cellsEq a.cells b.cells = decide (a = b) := by
  obtain ⟨k, r, ep, nu, ⟨mk, d, n, ⟨⟨x, y⟩, e⟩, ⟨⟨z, u⟩, f⟩, at1, e1⟩, ⟨⟨p, q⟩, g⟩, l⟩ := a; obtain ⟨k', r', ep', nu', ⟨mk', d', n', ⟨⟨x', y'⟩, e'⟩, ⟨⟨z', u'⟩, f'⟩, at1', e1'⟩, ⟨⟨p', q'⟩, g'⟩, l'⟩ := b
  rw [Bool.eq_iff_iff]
  simp [Tele.cells, cellsEq, cellEq, and_assoc]

theorem ofKinds_one : ∀ (ks : List (Option IntKind)) (vs : List Value), ofKinds ks vs = true → ∀ v ∈ vs, v.oneCell' = true
  | [], [], _, _, h => by simp at h
  | [], _ :: _, h, _, _ => by simp [ofKinds] at h
  | _ :: _, [], _, _, h => by simp at h
  | k :: ks, v :: vs, h, u, hu => by
    simp only [ofKinds, Bool.and_eq_true] at h
    rcases List.mem_cons.1 hu with rfl | hu
    · cases k <;> cases u <;> first | rfl | (simp [ofKind] at h)
    · exact ofKinds_one ks vs h.2 u hu

/-- The cells of a list of things, one behind the other. -/
def flat {α : Type} (c : α → List Value) (l : List α) : List Value := l.flatMap c
theorem flat_length {α : Type} (c : α → List Value) (n : Nat) (h : ∀ x, (c x).length = n) : ∀ l : List α, (flat c l).length = l.length * n
  | [] => by simp [flat]
  | x :: l => by
    have := flat_length c n h l
    unfold flat at *
    rw [List.flatMap_cons, List.length_append, h, this, List.length_cons, Nat.succ_mul, Nat.add_comm]
theorem flat_append {α : Type} (c : α → List Value) (a b : List α) : flat c (a ++ b) = flat c a ++ flat c b := by simp [flat]
theorem flat_get {α : Type} (c : α → List Value) (n : Nat) (h : ∀ x, (c x).length = n) : ∀ (l : List α) (i : Nat) (x : α), l[i]? = some x → ∀ j u, (c x)[j]? = some u → (flat c l)[i * n + j]? = some u
  | [], _, _, hi, _, _, _ => by simp at hi
  | y :: l, 0, x, hi, j, u, hu => by
    simp only [List.getElem?_cons_zero, Option.some.injEq] at hi
    subst hi
    have hj : j < (c y).length := (List.getElem?_eq_some_iff.1 hu).1
    unfold flat
    rw [List.flatMap_cons, Nat.zero_mul, Nat.zero_add, List.getElem?_append_left hj]
    exact hu
  | y :: l, i + 1, x, hi, j, u, hu => by
    have ih := flat_get c n h l i x (by simpa using hi) j u hu
    unfold flat at *
    rw [List.flatMap_cons, List.getElem?_append_right (by rw [h, Nat.succ_mul]; omega), h]
    rw [show (i + 1) * n + j - n = i * n + j from by rw [Nat.succ_mul]; omega]
    exact ih
theorem flat_take {α : Type} (c : α → List Value) (n : Nat) (h : ∀ x, (c x).length = n) : ∀ (l : List α) (k : Nat), flat c (l.take k) = (flat c l).take (k * n)
  | [], k => by simp [flat]
  | _ :: _, 0 => by simp [flat]
  | y :: l, k + 1 => by
    have ih := flat_take c n h l k
    unfold flat at *
    rw [List.take_succ_cons, List.flatMap_cons, List.flatMap_cons, ih, Nat.succ_mul, Nat.add_comm (k * n) n, ← h y, List.take_length_add_append]
theorem flat_drop {α : Type} (c : α → List Value) (n : Nat) (h : ∀ x, (c x).length = n) : ∀ (l : List α) (k : Nat), flat c (l.drop k) = (flat c l).drop (k * n)
  | [], k => by simp [flat]
  | y :: l, 0 => by simp
  | y :: l, k + 1 => by
    have ih := flat_drop c n h l k
    unfold flat at *
    rw [List.drop_succ_cons, List.flatMap_cons, ih, Nat.succ_mul, Nat.add_comm (k * n) n, ← h y, List.drop_length_add_append]
theorem flat_one {α : Type} (c : α → List Value) (ks : List (Option IntKind)) (h : ∀ x, ofKinds ks (c x) = true) (l : List α) : ∀ v ∈ flat c l, v.oneCell' = true := by
  intro v hv
  obtain ⟨x, _, hx⟩ := List.mem_flatMap.1 hv
  exact ofKinds_one ks _ (h x) v hx
/-- An element of a slice of things, as a row of cells. -/
theorem At.elem {α : Type} {w : World} {b o : Nat} {c : α → List Value} {n : Nat} {l : List α} (hat : At w b o (flat c l)) (h : ∀ x, (c x).length = n) {i : Nat} {x : α} (hi : l[i]? = some x) : At w b (o + i * n) (c x) :=
  hat.part (i * n) fun j u hu => flat_get c n h l i x hi j u hu
end Go.Sk
