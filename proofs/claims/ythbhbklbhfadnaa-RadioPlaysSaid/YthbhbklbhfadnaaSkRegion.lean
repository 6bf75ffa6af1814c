/- A region whose order is drawn, walked once in the order of the text: the operations that write, call or make memory are ordered among themselves; each other one gives one value in every world of a class that the region never leaves. -/
import Derived.Still
import Derived.WalkKit
namespace Go.Sk
open Go

/-- No way out of the region but its end. -/
def noExit : Exit → Act → World → Prop := fun _ _ _ => False

/-- It leaves the world alone. -/
def Keeps {α : Type} (P : Program) (s : Sem α) : Prop := ∀ w v w', s.run P w = .ok v w' → w' = w
namespace Keeps
variable {P : Program} {α β : Type}
theorem pure (a : α) : Keeps P (Pure.pure a : Sem α) := by
  intro w v w' h
  simp only [Sem.run_pure] at h
  injection h with _ h2
  exact h2.symm
theorem bind {s : Sem α} {f : α → Sem β} (hs : Keeps P s) (hf : ∀ a, Keeps P (f a)) : Keeps P (s >>= f) := by
  intro w v w' h
  rw [Sem.run_bind] at h
  cases hr : s.run P w with
  | ok a w1 =>
    rw [hr] at h
    rw [hf a w1 v w' h, hs w a w1 hr]
  | halt x w1 => rw [hr] at h; cases h
theorem halt (h : Halt) : Keeps P (Sem.halt h : Sem α) := by intro w v w' hr; cases hr
theorem program : Keeps P program := by
  intro w v w' h
  have h' : Result.ok P w = Result.ok v w' := h
  injection h' with _ h2
  exact h2.symm
theorem load (a : Addr) : Keeps P (load a) := by
  intro w v w' h
  simp only [Go.load, Sem.run] at h
  split at h
  · injection h with _ h2; exact h2.symm
  · split at h
    · injection h with _ h2; exact h2.symm
    · cases h
theorem und (t : TypeId) : Keeps P (underlying t) := by
  unfold underlying
  refine .bind .program fun p => ?_
  split
  · exact .pure _
  · exact .halt _
theorem info (t : TypeId) : Keeps P (typeInfo t) := by
  unfold typeInfo
  refine .bind .program fun p => ?_
  split
  · exact .pure _
  · exact .halt _
theorem loadCellsFrom (a : Addr) : ∀ (n i : Nat) (acc : Array Value), Keeps P (loadCellsFrom a i n acc)
  | 0, _, _ => .pure _
  | n + 1, i, acc => by unfold Go.loadCellsFrom; exact .bind (.load _) fun _ => Keeps.loadCellsFrom a n _ _
theorem loadVar (t : TypeId) (a : Addr) : Keeps P (loadVar t a) := by
  unfold Go.loadVar
  refine .bind ?_ fun b => ?_
  · unfold isAgg
    refine .bind (.und t) fun d => ?_
    split <;> exact .pure _
  · split
    · exact .bind (.bind (.info t) fun _ => .pure _) fun _ => .bind (.loadCellsFrom _ _ _ _) fun _ => .pure _
    · exact .load a
end Keeps

def isLoad (o : Oper) : Bool := match o.op with | .load .. => true | _ => false
theorem load_keeps {P : Program} {o : Oper} (h : isLoad o = true) (ρ : Operand → Value) {w w' : World} {n : Next} (hr : (execOp ρ o).run P w = .ok n w') : ∃ v, n = .value v ∧ w' = w := by
  obtain ⟨dst, op, type, pos, after, guard⟩ := o
  cases op <;> first | (cases h; done) | skip
  rename_i t x
  simp only [execOp, Sem.run_bind] at hr
  cases hs : (Instr.loadAt t (ρ x)).run P w with
  | ok v w1 =>
    rw [hs] at hr
    simp only [Result.andThen_ok, Sem.run_pure] at hr
    injection hr with h1 h2
    refine ⟨v, h1.symm, ?_⟩
    rw [← h2]
    have hk : Keeps P (Instr.loadAt t (ρ x)) := by
      unfold Instr.loadAt
      refine .bind ?_ fun a => .loadVar t a
      unfold Instr.sureAddr
      split
      · exact .pure _
      · exact .halt _
    exact hk w v w1 hs
  | halt x w1 => rw [hs] at hr; cases hr

/-- A new block and nothing else. -/
def isAlloc (o : Oper) : Bool := match o.op with | .alloc _ | .box .. | .buildSlice .. => true | _ => false
def Grows {α : Type} (P : Program) (s : Sem α) : Prop := ∀ w v w', s.run P w = .ok v w' → ∃ o, w' = w.alloc o
theorem Grows.bind {P : Program} {α β : Type} {s : Sem α} {f : α → Sem β} (hs : Keeps P s) (hf : ∀ a, Grows P (f a)) : Grows P (s >>= f) := by
  intro w v w' h
  rw [Sem.run_bind] at h
  cases hr : s.run P w with
  | ok a w1 =>
    rw [hr] at h
    obtain rfl := hs w a w1 hr
    exact hf a _ v w' h
  | halt x w1 => rw [hr] at h; cases h
theorem Grows.bindR {P : Program} {α β : Type} {s : Sem α} {f : α → Sem β} (hs : Grows P s) (hf : ∀ a, Keeps P (f a)) : Grows P (s >>= f) := by
  intro w v w' h
  rw [Sem.run_bind] at h
  cases hr : s.run P w with
  | ok a w1 =>
    rw [hr] at h
    obtain ⟨o, rfl⟩ := hs w a w1 hr
    exact ⟨o, hf a _ v w' h⟩
  | halt x w1 => rw [hr] at h; cases h
theorem Grows.halt {P : Program} {α : Type} (h : Halt) : Grows P (Sem.halt h : Sem α) := by intro w v w' hr; cases hr
theorem Grows.halt_bind {P : Program} {α β : Type} (h : Halt) (f : α → Sem β) : Grows P ((Sem.halt h : Sem α) >>= f) := by intro w v w' hr; cases hr
theorem Grows.newRow (P : Program) (t : TypeId) (cs : Array Value) : Grows P (newRow t cs) := by
  intro w v w' h
  have h' : Result.ok (⟨w.heap.size, 0, none⟩ : Addr) (w.alloc (.cells cs t)) = Result.ok v w' := h
  injection h' with _ h2
  exact ⟨_, h2.symm⟩
theorem Keeps.zeroValue (P : Program) (t : TypeId) : Keeps P (zeroValue t) := by
  unfold Go.zeroValue
  refine .bind (.info t) fun i => ?_
  split
  · exact .pure _
  · exact .halt _
theorem Keeps.sizeOf (P : Program) (t : TypeId) : Keeps P (sizeOf t) := .bind (.info t) fun _ => .pure _
theorem alloc_grows {P : Program} {o : Oper} (h : isAlloc o = true) (ρ : Operand → Value) {w w' : World} {n : Next} (hr : (execOp ρ o).run P w = .ok n w') : ∃ v ob, n = .value v ∧ w' = w.alloc ob := by
  obtain ⟨dst, op, type, pos, after, guard⟩ := o
  have key : ∀ {s : Sem Value}, Grows P s → (do pure (.value (← s)) : Sem Next).run P w = .ok n w' → ∃ v ob, n = .value v ∧ w' = w.alloc ob := by
    intro s hs hr
    rw [Sem.run_bind] at hr
    cases hq : s.run P w with
    | ok v w1 =>
      rw [hq] at hr
      simp only [Result.andThen_ok, Sem.run_pure] at hr
      injection hr with h1 h2
      obtain ⟨ob, hob⟩ := hs w v w1 hq
      exact ⟨v, ob, h1.symm, by rw [← h2, hob]⟩
    | halt x w1 => rw [hq] at hr; cases hr
  cases op <;> first | (cases h; done) | skip
  case alloc t =>
    refine key ?_ hr
    unfold Instr.alloc
    exact .bind (Keeps.zeroValue P t) fun z => .bindR (.newRow P t _) fun _ => .pure _
  case box t x =>
    refine key ?_ hr
    unfold Instr.box
    exact .bindR (.newRow P t _) fun _ => .pure _
  case buildSlice t len parts =>
    refine key ?_ hr
    unfold Instr.buildSlice
    refine .bind (.und t) fun d => ?_
    split
    · rename_i e
      refine .bind (Keeps.sizeOf P e) fun sz => ?_
      have rest : ∀ z : Array Value, Grows P (do
          let some cells := Instr.fill (fun i => some (i * sz, sz)) ((Array.range (len * sz)).map (z[· % z.size]!)) (parts.map fun (i, x) => (i, ρ x)).toList | stuck "buildSlice: a part of the wrong size"
          Pure.pure (Value.slice (some (← newRow e cells)) len len) : Sem Value) := by
        intro z
        split
        · exact .bindR (.newRow P e _) fun _ => .pure _
        · exact .halt _
      dsimp only
      split
      · exact .halt_bind _ _
      · split
        · exact .bind (.pure _) fun z => rest z
        · exact .bind (Keeps.zeroValue P e) fun z => .bind (.pure _) fun z => rest z
    · exact .halt _

/-- What is loaded is there in a world with a block more. -/
def Stays {α : Type} (P : Program) (s : Sem α) : Prop := ∀ w v ob, s.run P w = .ok v w → s.run P (w.alloc ob) = .ok v (w.alloc ob)
theorem viewLoad_alloc {p : Program} {w : World} {at_ : Addr} {u : TypeId} {a : Addr} {m : Bool} {r : Value × List Addr} (ob : Obj) (h : w.viewLoad p at_ u a m = .ok r) : (w.alloc ob).viewLoad p at_ u a m = .ok r := by
  by_cases hb : at_.block < w.heap.size
  · have he : (w.alloc ob).heap[at_.block]? = w.heap[at_.block]? := RowKit.Below.heap_alloc w ob _ hb
    unfold World.viewLoad World.seen at h ⊢
    rw [he]
    exact h
  · exfalso
    have hn : w.heap[at_.block]? = none := by simp; omega
    have hs : ∀ r, w.seen p at_ u a m ≠ .ok r := by
      intro r hr
      unfold World.seen at hr
      rw [hn] at hr
      simp only [bind, Except.bind] at hr
      repeat' (first | (cases hr; done) | split at hr)
    unfold World.viewLoad at h
    cases hq : w.seen p at_ u a m with
    | ok r => exact hs r hq
    | error e => rw [hq] at h; cases h

namespace Stays
variable {P : Program} {α β : Type}
theorem pure (a : α) : Stays P (Pure.pure a : Sem α) := by
  intro w v ob h
  simp only [Sem.run_pure] at h ⊢
  injection h with h1 _
  rw [h1]
theorem halt (h : Halt) : Stays P (Sem.halt h : Sem α) := by intro w v ob hr; cases hr
theorem bind {s : Sem α} {f : α → Sem β} (hk : Keeps P s) (hs : Stays P s) (hf : ∀ a, Stays P (f a)) : Stays P (s >>= f) := by
  intro w v ob h
  rw [Sem.run_bind] at h ⊢
  cases hr : s.run P w with
  | ok a w1 =>
    obtain rfl := hk w a w1 hr
    rw [hr] at h
    rw [hs _ a ob hr]
    exact hf a _ v ob h
  | halt x w1 => rw [hr] at h; cases h
theorem program : Stays P program := by
  intro w v ob h
  have h' : Result.ok P w = Result.ok v w := h
  injection h' with h1 _
  subst h1
  rfl
theorem load (a : Addr) : Stays P (load a) := by
  intro w v ob h
  simp only [Go.load, Sem.run] at h ⊢
  have hb : ∀ x, w.heap[a.block]? = some x → (w.alloc ob).heap[a.block]? = some x := by
    intro x hx
    rw [RowKit.Below.heap_alloc w ob _ (Array.getElem?_eq_some_iff.1 hx).1]
    exact hx
  cases hc : w.cell? a with
  | some u =>
    rw [hc] at h
    injection h with h1 _
    subst h1
    have : (w.alloc ob).cell? a = some u := by
      have hlt := World.block_lt_of_cell? w a hc
      rw [World.cell?_of_block (RowKit.Below.heap_alloc w ob _ hlt)]
      exact hc
    rw [this]
  | none =>
    rw [hc] at h
    simp only [] at h
    unfold World.farLoad at h
    split at h
    · rename_i hv
      split at hv
      · rename_i at_ u hview
        split at hv
        · rename_i r hr
          have hcn : (w.alloc ob).cell? a = none := by simp [World.cell?, hb _ hview]
          rw [hcn]
          simp only []
          unfold World.farLoad
          rw [hb _ hview]
          simp only [viewLoad_alloc ob hr]
          injection hv with hv
          subst hv
          injection h with h1 _
          rw [h1]
        · cases hv
      · cases hv
    · cases h
theorem und (t : TypeId) : Stays P (underlying t) := by
  unfold underlying
  refine .bind .program .program fun p => ?_
  split
  · exact .pure _
  · exact .halt _
theorem info (t : TypeId) : Stays P (typeInfo t) := by
  unfold typeInfo
  refine .bind .program .program fun p => ?_
  split
  · exact .pure _
  · exact .halt _
theorem loadCellsFrom (a : Addr) : ∀ (n i : Nat) (acc : Array Value), Stays P (loadCellsFrom a i n acc)
  | 0, _, _ => .pure _
  | n + 1, i, acc => by unfold Go.loadCellsFrom; exact .bind (.load _) (.load _) fun _ => Stays.loadCellsFrom a n _ _
theorem isAgg (t : TypeId) : Stays P (isAgg t) := by
  unfold Go.isAgg
  refine .bind (.und t) (.und t) fun d => ?_
  split <;> exact .pure _
theorem loadVar (t : TypeId) (a : Addr) : Stays P (loadVar t a) := by
  unfold Go.loadVar
  refine .bind ?_ (.isAgg t) fun b => ?_
  · unfold Go.isAgg
    refine .bind (.und t) fun d => ?_
    split <;> exact .pure _
  · split
    · exact .bind (.bind (.info t) fun _ => .pure _) (.bind (.info t) (.info t) fun _ => .pure _) fun _ => .bind (.loadCellsFrom _ _ _ _) (.loadCellsFrom _ _ _ _) fun _ => .pure _
    · exact .load a
end Stays
theorem load_stays {P : Program} {o : Oper} (h : isLoad o = true) (ρ : Operand → Value) {w : World} {v : Value} (ob : Obj) (hr : (execOp ρ o).run P w = .ok (.value v) w) : (execOp ρ o).run P (w.alloc ob) = .ok (.value v) (w.alloc ob) := by
  obtain ⟨dst, op, type, pos, after, guard⟩ := o
  cases op <;> first | (cases h; done) | skip
  rename_i t x
  have hk : Keeps P (Instr.loadAt t (ρ x)) := by
    unfold Instr.loadAt
    refine .bind ?_ fun a => .loadVar t a
    unfold Instr.sureAddr
    split
    · exact .pure _
    · exact .halt _
  have hs : Stays P (Instr.loadAt t (ρ x)) := by
    unfold Instr.loadAt
    refine .bind ?_ ?_ fun a => .loadVar t a
    · unfold Instr.sureAddr
      split
      · exact .pure _
      · exact .halt _
    · unfold Instr.sureAddr
      split
      · exact .pure _
      · exact .halt _
  have : Stays P (do pure (.value (← Instr.loadAt t (ρ x))) : Sem Next) := .bind hk hs fun _ => .pure _
  exact this w _ ob hr

theorem runN_add (P : Program) : ∀ (n k : Nat) (m a : Machine), runN P n m = .next a → runN P (n + k) m = runN P k a
  | 0, k, m, a, h => by
    simp only [runN, Stepped.next.injEq] at h
    subst h
    rw [Nat.zero_add]
  | n + 1, k, m, a, h => by
    rw [Nat.add_right_comm]
    simp only [runN] at h ⊢
    cases hs : step P m with
    | next m1 => rw [hs] at h; exact runN_add P n k m1 a h
    | _ => rw [hs] at h; cases h

/-- One call from one world hands back one thing. -/
theorem call_both {P : Program} {f : FuncId} {args : Array Value} {w w2 : World} {v' : Value} {R : Ending → World → Prop} (h1 : Calls P f args w R) (hR : ∀ e w', R e w' → ∃ x, e = .returned x) (h2 : Calls P f args w fun e w' => e = .returned v' ∧ w' = w2) : R (.returned v') w2 := by
  let c : Frame := { fn := P.funcs.size, tmps := #[], todo := [], defers := [], mode := .returning, kind := .report }
  obtain ⟨e1, u1, f1, hr1, hs1, _, l1⟩ := h1 [c]
  obtain ⟨v, rfl⟩ := hR _ _ hr1
  obtain ⟨n1, s1⟩ := hs1
  obtain ⟨e2, u2, f2, ⟨rfl, rfl⟩, ⟨n2, s2⟩, _, l2⟩ := h2 [c]
  have stuck : ∀ (v : Value) (w : World), ∃ o w', step P (lone (c.finish v) [] w) = .ended o w' := by
    intro v w
    refine ⟨.stuck "report: Error or String returned no string" "", w, step_lone_ended ?_⟩
    simp [stepG, unwind, c, Frame.finish, doReturn, GStep.bare]
  have key : ∀ (k : Nat) (fr fr' : Frame) (u u' : World) (x : Value), fr.leaving P u (.returned x) → runN P (k + 1) (lone fr [c] u) = .next (lone fr' [c] u') → False := by
    intro k fr fr' u u' x hl h
    simp only [runN, step_leave_returned hl] at h
    cases k with
    | zero =>
      simp only [runN, Stepped.next.injEq] at h
      have := congrArg (fun m : Machine => m.gs.map (·.callers)) h
      simp [lone] at this
    | succ k =>
      obtain ⟨o, w', hs⟩ := stuck x u
      simp only [runN, hs] at h
      cases h
  have done : ∀ (fr fr' : Frame) (u u' : World) (x x' : Value), fr.leaving P u (.returned x) → fr'.leaving P u' (.returned x') → lone fr [c] u = lone fr' [c] u' → x = x' ∧ u = u' := by
    intro fr fr' u u' x x' h h' he
    have e1 := congrArg (fun m : Machine => m.gs.map (·.frame)) he
    have e2 := congrArg (fun m : Machine => m.world) he
    simp [lone] at e1 e2
    subst e1 e2
    obtain ⟨_, _, _, fn, hf, hr⟩ := h
    obtain ⟨_, _, _, fn', hf', hr'⟩ := h'
    rw [hf] at hf'
    injection hf' with hf'
    subst hf'
    rw [hr] at hr'
    injection hr' with hr'
    exact ⟨hr', rfl⟩
  rcases Nat.lt_trichotomy n1 n2 with h | h | h
  · obtain ⟨k, rfl⟩ : ∃ k, n2 = n1 + (k + 1) := ⟨n2 - n1 - 1, by omega⟩
    rw [runN_add P n1 (k + 1) _ _ s1] at s2
    exact (key _ _ _ _ _ _ l1 s2).elim
  · subst h
    rw [s1] at s2
    injection s2 with s2
    obtain ⟨rfl, rfl⟩ := done _ _ _ _ _ _ l1 l2 s2
    exact hr1
  · obtain ⟨k, rfl⟩ : ∃ k, n1 = n2 + (k + 1) := ⟨n1 - n2 - 1, by omega⟩
    rw [runN_add P n2 (k + 1) _ _ s2] at s1
    exact (key _ _ _ _ _ _ l2 s1).elim

/-- It hands back v, and turns nothing: at once, or by a call. -/
def gives (P : Program) (s : Sem Next) (v : Value) (w : World) : Prop :=
  s.run P w = .ok (.value v) w ∨ ∃ f args, s.run P w = .ok (.enter f args) w ∧ Calls P f args w fun e w' => e = .returned v ∧ w' = w
theorem gives_one {P : Program} {s : Sem Next} {v v' : Value} {w : World} (h : gives P s v w) (h' : gives P s v' w) : v = v' := by
  rcases h with h | ⟨f, args, h, hc⟩ <;> rcases h' with h' | ⟨f', args', h', hc'⟩ <;> rw [h] at h' <;> injection h' with h' _
  · injection h'
  · cases h'
  · cases h'
  · injection h' with h1 h2
    subst h1 h2
    obtain ⟨h3, _⟩ := call_both hc (fun e w' he => ⟨_, he.1⟩) hc'
    injection h3 with h3
    exact h3.symm
theorem gives_wp {P : Program} {o : Oper} {a : Act} {v : Value} {w : World} {K : Act → World → Prop} {Q : Exit → Act → World → Prop} (h : gives P (execOp a.eval o) v w) (hK : K (a.put o.dst v) w) : o.wp P a w K Q := by
  unfold Oper.wp
  rcases h with h | ⟨f, args, h, hc⟩
  · rw [h]; exact hK
  · rw [h]
    exact hc.mono fun e w' ⟨he, hw⟩ => by subst he hw; exact hK
theorem gives_back {P : Program} {o : Oper} {a : Act} {v : Value} {w : World} {K : Act → World → Prop} (h : gives P (execOp a.eval o) v w) (hK : o.wp P a w K noExit) : K (a.put o.dst v) w := by
  unfold Oper.wp at hK
  rcases h with h | ⟨f, args, h, hc⟩
  · rw [h] at hK; exact hK
  · rw [h] at hK
    have := call_both hK (fun e w' he => by
      cases e
      case returned v => exact ⟨v, rfl⟩
      case panicked c => exact he.elim
      case outgrown => obtain ⟨_, _, h⟩ := he; exact h.elim) hc
    exact this

section
variable {P : Program} {ops : Array Oper} {C : World → Prop} {L : List Nat}

/-- One value in every world of the class. -/
def same (P : Program) (C : World → Prop) (o : Oper) (a : Act) (next : Act → Prop) : Prop :=
  ∃ v, (∀ w, C w → gives P (execOp a.eval o) v w) ∧ next (a.put o.dst v)

/-- One operation in the text's order: 'loud' or quiet. -/
def stepL (P : Program) (C : World → Prop) (loud : Bool) (o : Oper) (K : Act → World → Prop) (a : Act) (w : World) : Prop :=
  if loud then o.wp P a w (fun a' w' => C w' ∧ K a' w') noExit else same P C o a (fun a' => K a' w)

def wpLex (P : Program) (ops : Array Oper) (C : World → Prop) (L : List Nat) (Q : Act → World → Prop) : Nat → List Oper → Act → World → Prop
  | _, [], a, w => Q a w
  | k, o :: rest, a, w =>
    if Region.wanted o (yielded ops a.tmps) then stepL P C (L.contains k) o (wpLex P ops C L Q (k + 1) rest) a w
    else wpLex P ops C L Q (k + 1) rest (a.put o.dst undef) w

def opL (P : Program) (ops : Array Oper) (C : World → Prop) (L : List Nat) (i : Nat) (K : Act → World → Prop) (a : Act) (w : World) : Prop :=
  match ops[i]? with
  | none => K a w
  | some o => if Region.wanted o (yielded ops a.tmps) then stepL P C (L.contains i) o K a w else K (a.put o.dst undef) w

theorem wp_monoQ {o : Oper} {a : Act} {w : World} {K K' : Act → World → Prop} {Q : Exit → Act → World → Prop} (h : ∀ a w, K a w → K' a w)
    (hh : o.wp P a w K noExit) : o.wp P a w K' Q := by
  unfold Oper.wp at *
  generalize (execOp a.eval o).run P w = r at *
  cases r with
  | ok n w' =>
    cases n <;> simp only [Oper.upon] at hh ⊢
    case enter f args =>
      exact Calls.mono hh (fun e w'' he => by
        cases e
        case returned v => exact h _ _ he
        case panicked c => exact he.elim
        case outgrown => obtain ⟨_, _, h⟩ := he; exact h.elim)
    case row => exact Rows.mono hh (fun _ _ he => h _ _ he)
    all_goals exact h _ _ hh
  | halt x w' => cases x <;> simp only [Oper.upon, noExit] at hh

theorem stepL_mono {loud : Bool} {o : Oper} {a : Act} {w : World} {K K' : Act → World → Prop} (hC : C w) (h : ∀ a w, C w → K a w → K' a w)
    (hh : stepL P C loud o K a w) : stepL P C loud o K' a w := by
  unfold stepL at *
  split at hh
  · rename_i hl; simp only [hl, if_true]; exact wp_monoQ (fun a w hk => ⟨hk.1, h a w hk.1 hk.2⟩) hh
  · rename_i hl; simp only [hl]; obtain ⟨v, h1, h2⟩ := hh; exact ⟨v, h1, h _ _ hC h2⟩

theorem opL_mono {i : Nat} {a : Act} {w : World} {K K' : Act → World → Prop} (hC : C w) (h : ∀ a w, C w → K a w → K' a w)
    (hh : opL P ops C L i K a w) : opL P ops C L i K' a w := by
  unfold opL at *
  split
  · rename_i ho; simp only [ho] at hh; exact h _ _ hC hh
  · rename_i o ho
    simp only [ho] at hh
    split
    · rename_i hw; simp only [hw, if_true] at hh; exact stepL_mono hC h hh
    · rename_i hw; simp only [hw] at hh; exact h _ _ hC hh

/-- What follows an operation sees the frame that it left: the slots as they were, but its own. -/
def After (o : Oper) (a a' : Act) : Prop := ∃ ds u, a' = ({ a with defers := ds } : Act).put o.dst u

theorem wp_after {o : Oper} {a : Act} {w : World} {K : Act → World → Prop} (hh : o.wp P a w K noExit) :
    o.wp P a w (fun a' w' => After o a a' ∧ K a' w') noExit := by
  unfold Oper.wp at *
  generalize (execOp a.eval o).run P w = r at *
  cases r with
  | ok n w' =>
    cases n <;> simp only [Oper.upon] at hh ⊢
    case enter f args =>
      exact Calls.mono hh (fun e w'' he => by
        cases e
        case returned v => exact ⟨⟨a.defers, v, rfl⟩, he⟩
        case panicked c => exact he.elim
        case outgrown => exact he)
    case row => exact Rows.mono hh (fun v _ he => ⟨⟨a.defers, v, rfl⟩, he⟩)
    case value v => exact ⟨⟨a.defers, v, rfl⟩, hh⟩
    case skip => exact ⟨⟨a.defers, undef, rfl⟩, hh⟩
    case defer d => exact ⟨⟨d :: a.defers, undef, rfl⟩, hh⟩
  | halt x w' => cases x <;> simp only [Oper.upon, noExit] at hh

theorem wp_exists {o : Oper} {a : Act} {w : World} {K : Act → World → Prop} (hh : o.wp P a w K noExit) : ∃ a' w', K a' w' := by
  unfold Oper.wp at *
  generalize (execOp a.eval o).run P w = r at *
  cases r with
  | ok n w' =>
    cases n <;> simp only [Oper.upon] at hh
    case enter f args =>
      obtain ⟨e, w'', fr, he, _⟩ := hh []
      cases e
      case returned v => exact ⟨_, _, he⟩
      case panicked c => exact he.elim
      case outgrown => obtain ⟨_, _, h⟩ := he; exact h.elim
    case row r args =>
      obtain ⟨v, w'', h, _⟩ := hh { fn := 0, tmps := #[], todo := [], defers := [], mode := .run, kind := .normal } []
      exact ⟨_, _, h⟩
    all_goals exact ⟨_, _, hh⟩
  | halt x w' => cases x <;> simp only [Oper.upon, noExit] at hh

theorem put_defers (a : Act) (ds : List Deferred) (d : Option Tmp) (v : Value) : ({ a with defers := ds } : Act).put d v = { a.put d v with defers := ds } := by
  cases d <;> rfl

theorem put_defers' (a : Act) (d : Option Tmp) (v : Value) : (a.put d v).defers = a.defers := by cases d <;> rfl

/-- An operation does not see a slot at which it does not look. -/
theorem wp_put {o : Oper} {x : Option Tmp} {v : Value} (hs : ∀ cs b, o.op ≠ .select cs b) (h1 : ∀ d, x = some d → d ∉ o.looksAt ops) (h2 : ∀ d, x = some d → o.dst ≠ some d)
    {a : Act} {w : World} {K : Act → World → Prop} (hh : o.wp P a w (fun a' w' => K (a'.put x v) w') noExit) : o.wp P (a.put x v) w K noExit := by
  unfold Oper.wp at *
  rw [execOp_put o hs a x v h1]
  have hc : ∀ u, (a.put x v).put o.dst u = (a.put o.dst u).put x v := fun u => Act.put_comm a v u h2
  generalize (execOp a.eval o).run P w = r at *
  cases r with
  | ok n w' =>
    cases n <;> simp only [Oper.upon] at hh ⊢
    case enter f args =>
      exact Calls.mono hh (fun e w'' he => by
        cases e
        case returned u => show K _ _; rw [hc]; exact he
        case panicked c => exact he.elim
        case outgrown => exact he)
    case row => exact Rows.mono hh (fun u _ he => by rw [hc]; exact he)
    case value u => rw [hc]; exact hh
    case skip => rw [hc]; exact hh
    case defer d =>
      rw [put_defers'] 
      have : ({ a.put x v with defers := d :: a.defers } : Act).put o.dst undef = (({ a with defers := d :: a.defers } : Act).put o.dst undef).put x v := by
        rw [← put_defers, Act.put_comm _ v undef h2]
      rw [this]; exact hh
  | halt y w' => cases y <;> simp only [Oper.upon, noExit] at hh

theorem wp_put' {o : Oper} {x : Option Tmp} {v : Value} (hs : ∀ cs b, o.op ≠ .select cs b) (h1 : ∀ d, x = some d → d ∉ o.looksAt ops) (h2 : ∀ d, x = some d → o.dst ≠ some d)
    {a : Act} {w : World} {K : Act → World → Prop} (hh : o.wp P (a.put x v) w K noExit) : o.wp P a w (fun a' w' => K (a'.put x v) w') noExit := by
  unfold Oper.wp at *
  rw [execOp_put o hs a x v h1] at hh
  have hc : ∀ u, (a.put x v).put o.dst u = (a.put o.dst u).put x v := fun u => Act.put_comm a v u h2
  generalize (execOp a.eval o).run P w = r at *
  cases r with
  | ok n w' =>
    cases n <;> simp only [Oper.upon] at hh ⊢
    case enter f args =>
      exact Calls.mono hh (fun e w'' he => by
        cases e
        case returned u => show K _ _; rw [← hc]; exact he
        case panicked c => exact he.elim
        case outgrown => exact he)
    case row => exact Rows.mono hh (fun u _ he => by rw [← hc]; exact he)
    case value u => rw [← hc]; exact hh
    case skip => rw [← hc]; exact hh
    case defer d =>
      rw [put_defers'] at hh
      have : ({ a.put x v with defers := d :: a.defers } : Act).put o.dst undef = (({ a with defers := d :: a.defers } : Act).put o.dst undef).put x v := by
        rw [← put_defers, Act.put_comm _ v undef h2]
      rw [← this]; exact hh
  | halt y w' => cases y <;> simp only [Oper.upon, noExit] at hh

theorem eval_after {o oj : Oper} {a a' : Act} (hs : ∀ cs b, oj.op ≠ .select cs b) (h : After o a a') (h1 : ∀ d, o.dst = some d → d ∉ oj.looksAt ops) :
    execOp a'.eval oj = execOp a.eval oj ∧ Region.wanted oj (yielded ops a'.tmps) = Region.wanted oj (yielded ops a.tmps) := by
  obtain ⟨ds, u, rfl⟩ := h
  have e1 := execOp_put (ops := ops) oj hs ({ a with defers := ds } : Act) o.dst u h1
  have e2 := wanted_put (ops := ops) oj ({ a with defers := ds } : Act) o.dst u h1
  have e3 : (({ a with defers := ds } : Act)).eval = a.eval := by funext x; cases x <;> rfl
  rw [e3] at e1
  exact ⟨e1, e2⟩

/-- Two operations that are apart, one of them quiet, may be turned round. -/
theorem swap {i j : Nat} {oi oj : Oper} (hi : ops[i]? = some oi) (hj : ops[j]? = some oj) (hsi : ∀ cs b, oi.op ≠ .select cs b) (hsj : ∀ cs b, oj.op ≠ .select cs b)
    (hap : oi.apart ops oj = true) (hq : (L.contains i = false ∨ L.contains j = false) ∨ (isLoad oi = true ∧ (isLoad oj = true ∨ (isAlloc oj = true ∧ ∀ w ob, C w → C (w.alloc ob))))) {K : Act → World → Prop} {a : Act} {w : World} (hC : C w)
    (h : opL P ops C L i (opL P ops C L j K) a w) : opL P ops C L j (opL P ops C L i K) a w := by
  obtain ⟨p1, p2, p3⟩ := Oper.apart_spec hap
  have p2' : ∀ d, oj.dst = some d → oi.dst ≠ some d := fun d hd he => p2 d he hd
  -- the quiet or unwanted operation as one value
  have quiet : ∀ {k : Nat} {o : Oper} {K : Act → World → Prop} {a : Act} {w : World}, ops[k]? = some o → (L.contains k = false ∨ Region.wanted o (yielded ops a.tmps) = false) →
      (opL P ops C L k K a w ↔ ∃ v, ((Region.wanted o (yielded ops a.tmps) = true ∧ ∀ w, C w → gives P (execOp a.eval o) v w) ∨ (Region.wanted o (yielded ops a.tmps) = false ∧ v = undef)) ∧ K (a.put o.dst v) w) := by
    intro k o K a w hk hl
    unfold opL
    simp only [hk]
    by_cases hw : Region.wanted o (yielded ops a.tmps) = true
    · have hl' : L.contains k = false := hl.resolve_right (by simp [hw])
      simp only [hw, if_true, stepL, hl', Bool.false_eq_true, if_false, same, true_and]
      constructor
      · rintro ⟨v, h1, h2⟩; exact ⟨v, .inl h1, h2⟩
      · rintro ⟨v, h1 | h1, h2⟩
        · exact ⟨v, h1, h2⟩
        · exact absurd h1.1 (by simp)
    · have hw' : Region.wanted o (yielded ops a.tmps) = false := by simpa using hw
      simp only [hw', Bool.false_eq_true, if_false, false_and, false_or, true_and]
      constructor
      · intro h; exact ⟨_, rfl, h⟩
      · rintro ⟨v, rfl, h⟩; exact h
  have loud : ∀ {k : Nat} {o : Oper} {K : Act → World → Prop} {a : Act} {w : World}, ops[k]? = some o → L.contains k = true → Region.wanted o (yielded ops a.tmps) = true →
      (opL P ops C L k K a w ↔ o.wp P a w (fun a' w' => C w' ∧ K a' w') noExit) := by
    intro k o K a w hk hl hw
    unfold opL
    simp only [hk, hw, if_true, stepL, hl]
  by_cases qi : L.contains i = false ∨ Region.wanted oi (yielded ops a.tmps) = false
  · obtain ⟨v, hv, h2⟩ := (quiet hi qi).1 h
    by_cases qj : L.contains j = false ∨ Region.wanted oj (yielded ops a.tmps) = false
    · have qj' : L.contains j = false ∨ Region.wanted oj (yielded ops (a.put oi.dst v).tmps) = false := by rw [wanted_put oj a oi.dst v p1]; exact qj
      obtain ⟨u, hu, h3⟩ := (quiet hj qj').1 h2
      rw [wanted_put oj a oi.dst v p1, execOp_put oj hsj a oi.dst v p1] at hu
      refine (quiet hj qj).2 ⟨u, hu, (quiet hi (by rw [wanted_put oi a oj.dst u p3]; exact qi)).2 ⟨v, ?_, ?_⟩⟩
      · rw [wanted_put oi a oj.dst u p3, execOp_put oi hsi a oj.dst u p3]; exact hv
      · rw [← Act.put_comm a v u p2]; exact h3
    · have lj : L.contains j = true := by cases hb : L.contains j <;> simp_all
      have wj : Region.wanted oj (yielded ops a.tmps) = true := by cases hb : Region.wanted oj (yielded ops a.tmps) <;> simp_all
      have h3 := (loud hj lj (by rw [wanted_put oj a oi.dst v p1]; exact wj)).1 h2
      have h4 := wp_after (wp_put' (ops := ops) hsj p1 p2 h3)
      refine (loud hj lj wj).2 (wp_monoQ (fun a' w' => ?_) h4)
      rintro ⟨haf, hC', hK⟩
      obtain ⟨e1, e2⟩ := eval_after (ops := ops) hsi haf p3
      exact ⟨hC', (quiet hi (by rw [e2]; exact qi)).2 ⟨v, by rw [e1, e2]; exact hv, hK⟩⟩
  · have li : L.contains i = true := by cases hb : L.contains i <;> simp_all
    have wi : Region.wanted oi (yielded ops a.tmps) = true := by cases hb : Region.wanted oi (yielded ops a.tmps) <;> simp_all
    by_cases grow : isLoad oi = true ∧ (isAlloc oj = true ∧ ∀ w ob, C w → C (w.alloc ob)) ∧ L.contains j = true ∧ Region.wanted oj (yielded ops a.tmps) = true
    · obtain ⟨bi, ⟨bj, hCa⟩, lj, wj⟩ := grow
      have h1 := (loud hi li wi).1 h
      unfold Oper.wp at h1
      cases hr : (execOp a.eval oi).run P w with
      | halt x w1 => rw [hr] at h1; cases x <;> simp only [Oper.upon, noExit] at h1
      | ok n w1 =>
        obtain ⟨v, rfl, rfl⟩ := load_keeps bi a.eval hr
        rw [hr] at h1
        obtain ⟨_, h2⟩ := h1
        have h3 := (loud hj lj (by rw [wanted_put oj a oi.dst v p1]; exact wj)).1 h2
        unfold Oper.wp at h3
        rw [execOp_put oj hsj a oi.dst v p1] at h3
        cases hr2 : (execOp a.eval oj).run P w1 with
        | halt x w2 => rw [hr2] at h3; cases x <;> simp only [Oper.upon, noExit] at h3
        | ok n2 w2 =>
          obtain ⟨u, ob, rfl, rfl⟩ := alloc_grows bj a.eval hr2
          rw [hr2] at h3
          obtain ⟨_, h4⟩ := h3
          refine (loud hj lj wj).2 ?_
          unfold Oper.wp
          rw [hr2]
          refine ⟨hCa _ _ hC, (loud hi li (by rw [wanted_put oi a oj.dst u p3]; exact wi)).2 ?_⟩
          unfold Oper.wp
          rw [execOp_put oi hsi a oj.dst u p3, load_stays bi a.eval ob hr]
          refine ⟨hCa _ _ hC, ?_⟩
          rw [← Act.put_comm a v u p2]
          exact h4
    by_cases both : isLoad oi = true ∧ isLoad oj = true ∧ L.contains j = true ∧ Region.wanted oj (yielded ops a.tmps) = true
    · obtain ⟨bi, bj, lj, wj⟩ := both
      have h1 := (loud hi li wi).1 h
      unfold Oper.wp at h1
      cases hr : (execOp a.eval oi).run P w with
      | halt x w1 => rw [hr] at h1; cases x <;> simp only [Oper.upon, noExit] at h1
      | ok n w1 =>
        obtain ⟨v, rfl, rfl⟩ := load_keeps bi a.eval hr
        rw [hr] at h1
        obtain ⟨_, h2⟩ := h1
        have h3 := (loud hj lj (by rw [wanted_put oj a oi.dst v p1]; exact wj)).1 h2
        unfold Oper.wp at h3
        rw [execOp_put oj hsj a oi.dst v p1] at h3
        cases hr2 : (execOp a.eval oj).run P w1 with
        | halt x w2 => rw [hr2] at h3; cases x <;> simp only [Oper.upon, noExit] at h3
        | ok n2 w2 =>
          obtain ⟨u, rfl, rfl⟩ := load_keeps bj a.eval hr2
          rw [hr2] at h3
          obtain ⟨_, h4⟩ := h3
          refine (loud hj lj wj).2 ?_
          unfold Oper.wp
          rw [hr2]
          refine ⟨hC, (loud hi li (by rw [wanted_put oi a oj.dst u p3]; exact wi)).2 ?_⟩
          unfold Oper.wp
          rw [execOp_put oi hsi a oj.dst u p3, hr]
          refine ⟨hC, ?_⟩
          rw [← Act.put_comm a v u p2]
          exact h4
    have qj : L.contains j = false ∨ Region.wanted oj (yielded ops a.tmps) = false := by
      by_cases lj : L.contains j = false
      · exact .inl lj
      · by_cases wj : Region.wanted oj (yielded ops a.tmps) = false
        · exact .inr wj
        · exfalso
          rcases hq with (h1 | h1) | h1
          · rw [li] at h1; cases h1
          · exact lj h1
          · rcases h1.2 with h2 | h2
            · exact both ⟨h1.1, h2, by simpa using lj, by simpa using wj⟩
            · exact grow ⟨h1.1, h2, by simpa using lj, by simpa using wj⟩
    have h1 := wp_after ((loud hi li wi).1 h)
    obtain ⟨a1, w1, haf, hC1, hj1⟩ := wp_exists h1
    obtain ⟨e1, e2⟩ := eval_after (ops := ops) hsj haf p1
    obtain ⟨u, hu, _⟩ := (quiet hj (by rw [e2]; exact qj)).1 hj1
    rw [e1, e2] at hu
    refine (quiet hj qj).2 ⟨u, hu, (loud hi li (by rw [wanted_put oi a oj.dst u p3]; exact wi)).2 (wp_put (ops := ops) hsi p3 p2' (wp_monoQ (fun a' w' => ?_) h1))⟩
    rintro ⟨haf', hC', hK⟩
    obtain ⟨e3, e4⟩ := eval_after (ops := ops) hsj haf' p1
    obtain ⟨u', hu', hK'⟩ := (quiet hj (by rw [e4]; exact qj)).1 hK
    rw [e3, e4] at hu'
    have : u' = u := by
      rcases hu with ⟨x1, x2⟩ | ⟨x1, x2⟩ <;> rcases hu' with ⟨y1, y2⟩ | ⟨y1, y2⟩
      · exact gives_one (y2 w hC) (x2 w hC)
      · rw [x1] at y1; cases y1
      · rw [x1] at y1; cases y1
      · rw [x2, y2]
    subst this
    exact ⟨hC', hK'⟩

/-- Whatever order is picked from here on. -/
def anyL (P : Program) (ops : Array Oper) (C : World → Prop) (L : List Nat) (Q : Act → World → Prop) : Nat → Array Bool → Act → World → Prop
  | 0, listed, a, w => Region.ready .any ops listed = [] ∧ Q a w
  | fuel + 1, listed, a, w =>
    (Region.ready .any ops listed = [] → Q a w) ∧
    ∀ i ∈ Region.ready .any ops listed, opL P ops C L i (anyL P ops C L Q fuel (listed.setIfInBounds i true)) a w

theorem opL_wpOp {i : Nat} {a : Act} {w : World} {K K' : Act → World → Prop} {Q : Exit → Act → World → Prop} (hC : C w) (h : ∀ a w, C w → K a w → K' a w)
    (hh : opL P ops C L i K a w) : wpOp P ops Q i K' a w := by
  unfold opL at hh
  unfold wpOp
  split
  · rename_i ho; simp only [ho] at hh; exact h _ _ hC hh
  · rename_i o ho
    simp only [ho] at hh
    split
    · rename_i hw
      simp only [hw, if_true] at hh
      left
      unfold stepL at hh
      split at hh
      · exact wp_monoQ (fun a w hk => h a w hk.1 hk.2) hh
      · obtain ⟨v, h1, h2⟩ := hh
        exact gives_wp (h1 w hC) (h _ _ hC h2)
    · rename_i hw; simp only [hw] at hh; exact h _ _ hC hh

theorem wpAny_of_anyL {Q' : Act → World → Prop} {Q : Exit → Act → World → Prop} (hQ : ∀ a w, Q' a w → Q .normal a w) : ∀ (fuel : Nat) (listed : Array Bool) (a : Act) (w : World), C w →
    anyL P ops C L Q' fuel listed a w → wpAny P .any ops Q fuel listed a w
  | 0, _, _, _, _, h => ⟨h.1, hQ _ _ h.2⟩
  | fuel + 1, _, _, _, hC, h => ⟨fun h0 => hQ _ _ (h.1 h0), fun i hi => opL_wpOp hC (fun a' w' hC' => wpAny_of_anyL hQ fuel _ a' w' hC') (h.2 i hi)⟩

/-! ### the check: which operations must stand before which -/
/-- 'b': for each operation those that surely stand before it, as bits. -/
def maskOf (b : Array Nat) (o : Oper) : Nat := o.after.toList.foldl (fun s e => if Region.binds .any e then s ||| (2 ^ e.on ||| b.getD e.on 0) else s) 0

theorem foldl_bit (b : Array Nat) (i : Nat) : ∀ (l : List Edge) (s : Nat), (l.foldl (fun s e => if Region.binds .any e then s ||| (2 ^ e.on ||| b.getD e.on 0) else s) s).testBit i = true →
    s.testBit i = true ∨ ∃ e ∈ l, Region.binds .any e = true ∧ (e.on = i ∨ (b.getD e.on 0).testBit i = true)
  | [], s, h => .inl h
  | e :: l, s, h => by
    rw [List.foldl_cons] at h
    rcases foldl_bit b i l _ h with h | ⟨e', he', h⟩
    · split at h
      · rename_i hb
        simp only [Nat.testBit_or, Bool.or_eq_true, Nat.testBit_two_pow, decide_eq_true_eq] at h
        rcases h with h | h | h
        · exact .inl h
        · exact .inr ⟨e, by simp, hb, .inl h⟩
        · exact .inr ⟨e, by simp, hb, .inr h⟩
      · exact .inl h
    · exact .inr ⟨e', by simp [he'], h⟩

def okMasks (ops : Array Oper) (b : Array Nat) : Bool :=
  (List.range ops.size).all fun j => match ops[j]? with
    | none => true
    | some o => b.getD j 0 == maskOf b o && o.after.toList.all (fun e => !Region.binds .any e || decide (e.on < j))

def Closed (ops : Array Oper) (listed : Array Bool) : Prop :=
  ∀ j o, ops[j]? = some o → listed.getD j false = true → ∀ e ∈ o.after, Region.binds .any e = true → listed.getD e.on false = true

theorem listed_of_mask {b : Array Nat} (hb : okMasks ops b = true) {listed : Array Bool} (hc : Closed ops listed) (i : Nat) : ∀ (n j : Nat) (o : Oper), j ≤ n → ops[j]? = some o →
    (∀ e ∈ o.after, Region.binds .any e = true → listed.getD e.on false = true) → (b.getD j 0).testBit i = true → listed.getD i false = true := by
  intro n
  induction n with
  | zero =>
    intro j o hj ho hall hbit
    have hlt : j < ops.size := (Array.getElem?_eq_some_iff.1 ho).1
    have h := List.all_eq_true.1 hb j (List.mem_range.2 hlt)
    simp only [ho, Bool.and_eq_true, beq_iff_eq, List.all_eq_true, Bool.or_eq_true, Bool.not_eq_true', decide_eq_true_eq] at h
    rw [h.1] at hbit
    rcases foldl_bit b i _ _ hbit with h0 | ⟨e, he, hbd, h0⟩
    · simp at h0
    · have := (h.2 e he).resolve_left (by simp [hbd]); omega
  | succ n ih =>
    intro j o hj ho hall hbit
    have hlt : j < ops.size := (Array.getElem?_eq_some_iff.1 ho).1
    have h := List.all_eq_true.1 hb j (List.mem_range.2 hlt)
    simp only [ho, Bool.and_eq_true, beq_iff_eq, List.all_eq_true, Bool.or_eq_true, Bool.not_eq_true', decide_eq_true_eq] at h
    rw [h.1] at hbit
    rcases foldl_bit b i _ _ hbit with h0 | ⟨e, he, hbd, h0⟩
    · simp at h0
    · have hle := (h.2 e he).resolve_left (by simp [hbd])
      have hl := hall e (Array.mem_toList_iff.1 he) hbd
      rcases h0 with h0 | h0
      · rw [← h0]; exact hl
      · have hlt' : e.on < ops.size := by omega
        exact ih e.on ops[e.on] (by omega) (by simp [hlt']) (hc e.on _ (by simp [hlt']) hl) h0

/-- Two operations: one surely stands before the other, or they are apart and one of them is quiet. -/
def pairOk (ops : Array Oper) (b : Array Nat) (L : List Nat) (i j : Nat) : Bool :=
  i == j || (b.getD j 0).testBit i || (b.getD i 0).testBit j ||
    (match ops[i]?, ops[j]? with | some oi, some oj => oi.apart ops oj && ((!L.contains i || !L.contains j) || (isLoad oi && (isLoad oj || isAlloc oj))) | _, _ => true)

def lexOk (ops : Array Oper) (L : List Nat) : Bool :=
  Region.noSelect ops && okMasks ops (Region.before ops) &&
    (List.range ops.size).all fun i => (List.range ops.size).all fun j => decide (j ≤ i) || pairOk ops (Region.before ops) L i j

theorem closed_set {listed : Array Bool} {i : Nat} (hc : Closed ops listed) (hr : i ∈ Region.ready .any ops listed) : Closed ops (listed.setIfInBounds i true) := by
  intro j o ho hl e he hb
  by_cases hij : i = j
  · subst hij
    obtain ⟨_, o', ho', hall⟩ := mem_ready.1 hr
    rw [ho] at ho'
    injection ho' with ho'
    subst ho'
    exact getD_set_true (hall e he hb)
  · rw [getD_set_ne false hij] at hl
    exact getD_set_true (hc j o ho hl e he hb)

theorem anyL_first {Q : Act → World → Prop} {i : Nat} {oi : Oper} (hi : ops[i]? = some oi) (hsel : ∀ (j : Nat) (o : Oper) cs b, ops[j]? = some o → o.op ≠ .select cs b)
    {b : Array Nat} (hb : okMasks ops b = true) (hCa : ∀ w ob, C w → C (w.alloc ob)) (hp : ∀ j, i < j → j < ops.size → pairOk ops b L i j = true) :
    ∀ (fuel : Nat) (listed : Array Bool) (a : Act) (w : World), C w → Closed ops listed → (∀ j, j < i → listed.getD j true = true) → i ∈ Region.ready .any ops listed →
      opL P ops C L i (anyL P ops C L Q fuel (listed.setIfInBounds i true)) a w → anyL P ops C L Q (fuel + 1) listed a w := by
  have exist : ∀ {K : Act → World → Prop} {a : Act} {w : World}, opL P ops C L i K a w → ∃ a' w', K a' w' := by
    intro K a w h
    unfold opL at h
    simp only [hi] at h
    split at h
    · unfold stepL at h
      split at h
      · obtain ⟨a', w', _, h⟩ := wp_exists h; exact ⟨a', w', h⟩
      · obtain ⟨v, _, h⟩ := h; exact ⟨_, _, h⟩
    · exact ⟨_, _, h⟩
  intro fuel
  induction fuel with
  | zero =>
    intro listed a w hC hcl hel hr H
    refine ⟨fun h => (by rw [h] at hr; cases hr), fun j hj => ?_⟩
    by_cases hji : j = i
    · subst hji; exact H
    · obtain ⟨a', w', h0, _⟩ := exist H
      have := ready_mono hj hji
      rw [h0] at this
      cases this
  | succ fuel ih =>
    intro listed a w hC hcl hel hr H
    refine ⟨fun h => (by rw [h] at hr; cases hr), fun j hj => ?_⟩
    by_cases hji : j = i
    · subst hji; exact H
    · obtain ⟨hjun, oj, hoj, hall⟩ := mem_ready.1 hj
      obtain ⟨hiun, oi', hoi', halli⟩ := mem_ready.1 hr
      have hlt : j < ops.size := (Array.getElem?_eq_some_iff.1 hoj).1
      have contra : ∀ {k : Nat} {o : Oper}, ops[k]? = some o → listed.getD k true = false → listed.getD k false = true → False := by
        intro k o ho h1 h2
        rcases Nat.lt_or_ge k listed.size with h' | h'
        · simp [h'] at h1 h2; rw [h1] at h2; cases h2
        · simp [Array.getElem?_eq_none h'] at h2
      have hij : i < j := by
        rcases Nat.lt_or_ge j i with h | h
        · have := hel j h; rw [hjun] at this; cases this
        · omega
      have hpair := hp j hij hlt
      simp only [pairOk, Bool.or_eq_true, beq_iff_eq, hi, hoj, Bool.and_eq_true, Bool.not_eq_true'] at hpair
      have hgood : oi.apart ops oj = true ∧ ((L.contains i = false ∨ L.contains j = false) ∨ (isLoad oi = true ∧ (isLoad oj = true ∨ isAlloc oj = true))) := by
        rcases hpair with ((h | h) | h) | h
        · exact absurd h.symm hji
        · exact (contra hi hiun (listed_of_mask hb hcl i j j oj (Nat.le_refl _) hoj hall h)).elim
        · rw [hi] at hoi'
          injection hoi' with hoi'
          subst hoi'
          exact (contra hoj hjun (listed_of_mask hb hcl j i i oi (Nat.le_refl _) hi halli h)).elim
        · exact h
      have H' : opL P ops C L i (opL P ops C L j (anyL P ops C L Q fuel ((listed.setIfInBounds i true).setIfInBounds j true))) a w :=
        opL_mono hC (fun a' w' _ hh => hh.2 j (ready_mono hj hji)) H
      have H2 := swap hi hoj (fun cs b => hsel i oi cs b hi) (fun cs b => hsel j oj cs b hoj) hgood.1 (hgood.2.imp id fun h => ⟨h.1, h.2.imp id fun h => ⟨h, hCa⟩⟩) hC H'
      refine opL_mono hC (fun a' w' hC' h3 => ih (listed.setIfInBounds j true) a' w' hC' (closed_set hcl hj) (fun q hq => by
        by_cases hqj : j = q
        · subst hqj
          rcases Nat.lt_or_ge j listed.size with h' | h' <;> simp [h']
        · rw [getD_set_ne true hqj]; exact hel q hq) (ready_mono hr (Ne.symm hji)) ?_) H2
      rw [Array.setIfInBounds_comm _ _ hji]
      exact h3

theorem anyL_lex {Q : Act → World → Prop} (hsel : Region.noSelect ops = true) (hb : okMasks ops (Region.before ops) = true) (hCa : ∀ w ob, C w → C (w.alloc ob))
    (hp : ∀ i, i < ops.size → ∀ j, i < j → j < ops.size → pairOk ops (Region.before ops) L i j = true) :
    ∀ (l : List Oper) (k : Nat) (listed : Array Bool) (a : Act) (w : World), C w → (∀ j, l[j]? = ops[k + j]?) → Closed ops listed → listed.size = ops.size →
      (∀ j, j < ops.size → (listed.getD j false = true ↔ j < k)) → wpLex P ops C L Q k l a w → anyL P ops C L Q l.length listed a w
  | [], k, listed, a, w, _, hl, _, hsz, hls, h => by
    refine ⟨?_, h⟩
    have hk : ops.size ≤ k := by
      have := hl 0
      simp at this
      exact this
    cases hr : Region.ready .any ops listed with
    | nil => rfl
    | cons x xs =>
      have hx : x ∈ Region.ready .any ops listed := by rw [hr]; simp
      obtain ⟨h0, o, ho, _⟩ := mem_ready.1 hx
      have hlt : x < ops.size := (Array.getElem?_eq_some_iff.1 ho).1
      have := (hls x hlt).2 (by omega)
      have hlt' : x < listed.size := by omega
      simp [hlt'] at h0 this
      rw [h0] at this
      cases this
  | o :: l, k, listed, a, w, hC, hl, hcl, hsz, hls, h => by
    have h0 : ops[k]? = some o := by simpa using (hl 0).symm
    have hlt : k < ops.size := (Array.getElem?_eq_some_iff.1 h0).1
    have hready : k ∈ Region.ready .any ops listed := by
      refine mem_ready.2 ⟨?_, o, h0, fun e he hbd => ?_⟩
      · have h1 : ¬ listed.getD k false = true := fun h' => by have := (hls k hlt).1 h'; omega
        have hlt' : k < listed.size := by omega
        simp [hlt'] at h1 ⊢
        exact h1
      · have hm := List.all_eq_true.1 hb k (List.mem_range.2 hlt)
        simp only [h0, Bool.and_eq_true, beq_iff_eq, List.all_eq_true, Bool.or_eq_true, Bool.not_eq_true', decide_eq_true_eq] at hm
        have hle := (hm.2 e (Array.mem_toList_iff.2 he)).resolve_left (by simp [hbd])
        exact (hls e.on (by omega)).2 hle
    refine anyL_first h0 (Region.noSelect_spec hsel) hb hCa (hp k hlt) l.length listed a w hC hcl (fun j hj => by
      have h1 := (hls j (by omega)).2 hj
      rcases Nat.lt_or_ge j listed.size with h' | h'
      · simp [h'] at h1 ⊢; exact h1
      · simp [h']) hready ?_
    have hst : opL P ops C L k (wpLex P ops C L Q (k + 1) l) a w := by unfold opL; simp only [h0]; exact h
    refine opL_mono hC (fun a' w' hC' h' => anyL_lex hsel hb hCa hp l (k + 1) _ a' w' hC' (fun j => by have := hl (j + 1); simpa [Nat.add_assoc, Nat.add_comm 1 j] using this)
      (closed_set hcl hready) (by simpa using hsz) (fun j hj => ?_) h') hst
    by_cases hjk : k = j
    · subst hjk
      have hlt' : k < listed.size := by omega
      simp [hlt']
    · rw [getD_set_ne false hjk, hls j hj]; omega

/-- A REGION THAT DRAWS ITS ORDER, WALKED IN THE TEXT's ORDER. 'L': the numbers of its loud operations (calls, stores, what makes memory, reads of what it writes); 'C': a class of worlds that it does not leave. -/
theorem wp_region_lex {id : Nat} {Q : Exit → Act → World → Prop} {a : Act} {w : World} {l : List Oper} (L : List Nat) (C : World → Prop) (hm : P.follows .mixedOrders = true)
    (hB : lexOk l.toArray L = true) (hC : C w.drew) (hCa : ∀ w ob, C w → C (w.alloc ob)) (h : wpLex P l.toArray C L (fun a w => Q .normal a w) 0 l a w.drew) : (Code.region id l.toArray true).wp P Q a w := by
  simp only [lexOk, Bool.and_eq_true, List.all_eq_true, List.mem_range, Bool.or_eq_true, decide_eq_true_eq] at hB
  obtain ⟨⟨h1, h2⟩, h3⟩ := hB
  refine wp_region_any hm (wpAny_of_anyL (C := C) (L := L) (Q' := fun a w => Q .normal a w) (fun _ _ h => h) _ _ _ _ hC ?_)
  have := anyL_lex (P := P) (C := C) (Q := fun a w => Q .normal a w) h1 h2 hCa (fun i hi j hij hj => (h3 i hi j hj).resolve_left (by omega)) l 0 (Array.replicate l.toArray.size false) a w.drew hC (by simp) (by
    intro j o _ hl
    simp only [Array.getD_eq_getD_getElem?, Array.getElem?_replicate] at hl
    split at hl <;> simp at hl) (by simp) (by
    intro j hj
    simp only [Array.getD_eq_getD_getElem?, Array.getElem?_replicate]
    split <;> simp) h
  simpa using this

theorem wpLex_nil {Q : Act → World → Prop} {k : Nat} {a : Act} {w : World} (h : Q a w) : wpLex P ops C L Q k [] a w := h
end
end Go.Sk
