/- Operations whose value hangs on their operands alone; with them a region that draws its order is walked by the plain rules, in the order of the text. -/
import Derived.Test.YthbhbklbhfadnaaSkRegion
import Derived.Laws.Panics
namespace Go.Sk
open Go

/-- What it answers in one world it answers in every world, and leaves it. -/
def OkDet {α : Type} (P : Program) (s : Sem α) : Prop := ∀ w v w', s.run P w = .ok v w' → ∀ w2, s.run P w2 = .ok v w2

section
variable {P : Program} {α β : Type}
theorem OkDet.pure (a : α) : OkDet P (Pure.pure a : Sem α) := by
  intro w v w' h w2
  simp only [Sem.run_pure] at h ⊢
  injection h with h1 h2
  rw [h1]
theorem OkDet.pure' (a : α) : OkDet P (Sem.pure a) := OkDet.pure a
theorem OkDet.bind {s : Sem α} {f : α → Sem β} (hs : OkDet P s) (hf : ∀ a, OkDet P (f a)) : OkDet P (s >>= f) := by
  intro w v w' h w2
  rw [Sem.run_bind] at h ⊢
  cases hr : s.run P w with
  | ok a w1 =>
    rw [hr] at h
    rw [hs w a w1 hr w2]
    exact hf a w1 v w' h w2
  | halt x w1 => rw [hr] at h; cases h
theorem OkDet.bind' {s : Sem α} {f : α → Sem β} (hs : OkDet P s) (hf : ∀ w a w', s.run P w = .ok a w' → OkDet P (f a)) : OkDet P (s >>= f) := by
  intro w v w' h w2
  rw [Sem.run_bind] at h ⊢
  cases hr : s.run P w with
  | ok a w1 =>
    rw [hr] at h
    rw [hs w a w1 hr w2]
    exact hf w a w1 hr w1 v w' h w2
  | halt x w1 => rw [hr] at h; cases h
theorem OkDet.map {s : Sem α} (f : α → β) (hs : OkDet P s) : OkDet P (f <$> s) := OkDet.bind hs fun a => OkDet.pure' (f a)
theorem OkDet.halt (h : Halt) : OkDet P (Sem.halt h : Sem α) := by intro w v w' hr; cases hr
theorem OkDet.stuck (m : String) : OkDet P (stuck m : Sem α) := OkDet.halt _
theorem OkDet.unsupported (u : Unsupported) : OkDet P (unsupported u : Sem α) := OkDet.halt _
theorem OkDet.program : OkDet P program := by
  intro w v w' h w2
  have h' : Result.ok P w = Result.ok v w' := h
  injection h' with h1 h2
  subst h1
  rfl
theorem OkDet.never {s : Sem α} (h : ∀ w v w', s.run P w ≠ .ok v w') : OkDet P s := fun w v w' hr => absurd hr (h w v w')
theorem OkDet.boundsPanic (k : IntKind) (x y : Int) (c : BoundsCode) : OkDet P (boundsPanic k x y c : Sem α) := by
  refine .never fun w v w' h => ?_
  obtain ⟨s, w1, hr⟩ := run_boundsPanic (α := α) (P := P) (w := w) k x y c
  rw [hr] at h
  cases h
theorem OkDet.ite (c : Prop) [Decidable c] {s t : Sem α} (hs : c → OkDet P s) (ht : ¬ c → OkDet P t) : OkDet P (if c then s else t) := by
  split
  · exact hs ‹_›
  · exact ht ‹_›
theorem never_bind {s : Sem α} {f : α → Sem β} (hf : ∀ a w v w', (f a).run P w ≠ .ok v w') : ∀ w v w', (s >>= f).run P w ≠ .ok v w' := by
  intro w v w' h
  rw [Sem.run_bind] at h
  cases hr : s.run P w with
  | ok a w1 => rw [hr] at h; exact hf a w1 v w' h
  | halt x w1 => rw [hr] at h; cases h
theorem never_panic (x : Value) : ∀ w v w', (goPanic x : Sem α).run P w ≠ .ok v w' := by
  intro w v w' h; cases h
theorem OkDet.runtimePanic (e : RuntimeError) : OkDet P (runtimePanic e : Sem α) := by
  refine .never ?_
  unfold Go.runtimePanic
  refine never_bind fun p => ?_
  cases e <;> first
    | exact never_panic _
    | exact never_bind fun _ => never_bind fun _ => never_panic _
theorem OkDet.info (t : TypeId) : OkDet P (typeInfo t) := by
  unfold typeInfo
  refine .bind .program fun p => ?_
  split
  · exact .pure _
  · exact .stuck _
theorem OkDet.und (t : TypeId) : OkDet P (underlying t) := by
  unfold underlying
  refine .bind .program fun p => ?_
  split
  · exact .pure _
  · exact .stuck _
theorem OkDet.sizeOf (t : TypeId) : OkDet P (sizeOf t) := .bind (.info t) fun _ => .pure _
theorem OkDet.zeroValue (t : TypeId) : OkDet P (zeroValue t) := by
  unfold Go.zeroValue
  refine .bind (.info t) fun i => ?_
  split
  · exact .pure _
  · exact .unsupported _
theorem OkDet.isAgg (t : TypeId) : OkDet P (isAgg t) := by
  unfold Go.isAgg
  refine .bind (.und t) fun d => ?_
  split <;> exact .pure _
theorem OkDet.part (t : TypeId) (cs : Array Value) (off : Nat) : OkDet P (part t cs off) := by
  unfold Go.part
  refine .bind (.isAgg t) fun b => ?_
  split
  · exact .bind (.sizeOf t) fun _ => .pure _
  · split
    · exact .pure _
    · exact .stuck _
theorem OkDet.asIntOf (v : Value) : OkDet P (asIntOf v) := by
  unfold Go.asIntOf
  split
  · exact .pure _
  · exact .unsupported _
  · exact .stuck _
theorem OkDet.asAgg (v : Value) : OkDet P (asAgg v) := by
  unfold Go.asAgg
  split
  · exact .pure _
  · exact .stuck _
theorem OkDet.asBool (v : Value) : OkDet P (asBool v) := by
  unfold Go.asBool
  split
  · exact .pure _
  · exact .stuck _
theorem OkDet.asAddr (v : Value) : OkDet P (asAddr v) := by
  unfold Go.asAddr
  split
  · exact .pure _
  · exact .runtimePanic _
  · exact .stuck _
theorem OkDet.sureAddr (v : Value) : OkDet P (Instr.sureAddr v) := by
  unfold Instr.sureAddr
  split
  · exact .pure _
  · exact .stuck _
theorem OkDet.mapM {γ δ : Type} (f : γ → Sem δ) (hf : ∀ x, OkDet P (f x)) : ∀ (l : List γ), OkDet P (l.mapM f)
  | [] => by rw [List.mapM_nil]; exact .pure _
  | x :: l => by rw [List.mapM_cons]; exact .bind (hf x) fun _ => .bind (OkDet.mapM f hf l) fun _ => .pure _
theorem OkDet.mapMA {γ δ : Type} (f : γ → Sem δ) (hf : ∀ x, OkDet P (f x)) (a : Array γ) : OkDet P (a.mapM f) := by
  rw [Array.mapM_eq_mapM_toList]
  exact .map _ (.mapM f hf _)
theorem OkDet.fieldAt (s : TypeId) (x : Value) (f : Nat) (hs : ((P.underlying s).bind fun d => match d with | .struct fs => fs[f]? | _ => none).all (fun fd => ((P.info? fd.type).map (·.size)).all (· != 0)) = true) : OkDet P (Instr.fieldAt s x f) := by
  unfold Instr.fieldAt
  refine .bind' (.und s) fun w d w' hd => ?_
  have hd' : P.underlying s = some d := by
    simp only [underlying, Sem.run_bind] at hd
    have hp : (Go.program).run P w = Result.ok P w := rfl
    rw [hp] at hd
    simp only [Result.andThen_ok] at hd
    split at hd
    · rename_i d' hd'; simp only [Sem.run_pure] at hd; injection hd with h1; rw [← h1]; exact hd'
    · cases hd
  split
  · rename_i fields
    split
    · rename_i fd hf
      refine .bind (.sureAddr x) fun a => .bind ?_ fun _ => .pure _
      unfold fieldPlace
      refine .bind' (.sizeOf _) fun w n w' hn => ?_
      have hn' : n ≠ 0 := by
        rw [hd'] at hs
        simp only [Option.bind_some, hf, Option.all_some] at hs
        simp only [Go.sizeOf, typeInfo, Sem.run_bind] at hn
        have hp : (Go.program).run P w = Result.ok P w := rfl
        rw [hp] at hn
        simp only [Result.andThen_ok] at hn
        split at hn
        · rename_i i hi
          simp only [Sem.run_pure, Result.andThen_ok] at hn
          injection hn with h1
          rw [hi] at hs
          simp at hs
          rw [← h1]
          exact hs
        · cases hn
      rw [if_neg hn']
      exact .pure _
    · exact .stuck _
  · exact .stuck _
theorem OkDet.indexAt (t : TypeId) (x i : Value) : OkDet P (Instr.indexAt t x i) := by
  unfold Instr.indexAt
  refine .bind (.asIntOf _) fun ki => ?_
  refine .bind (.und t) fun d => ?_
  dsimp only
  split
  · refine .bind (.sureAddr _) fun a => .bind (.pure _) fun x => .bind (.und t) fun d2 => ?_
    split
    · exact .ite _ (fun _ => .bind (.sizeOf _) fun _ => .pure _) fun _ => .ite _ (fun _ => .unsupported _) fun _ => .boundsPanic _ _ _ _
    · exact .boundsPanic _ _ _ _
  · refine .bind (.pure _) fun x => .bind (.und t) fun d2 => ?_
    split
    · exact .ite _ (fun _ => .bind (.sizeOf _) fun _ => .pure _) fun _ => .ite _ (fun _ => .unsupported _) fun _ => .boundsPanic _ _ _ _
    · exact .boundsPanic _ _ _ _
  · refine .bind (.stuck _) fun x => .bind (.und t) fun d2 => ?_
    split
    · exact .ite _ (fun _ => .bind (.sizeOf _) fun _ => .pure _) fun _ => .ite _ (fun _ => .unsupported _) fun _ => .boundsPanic _ _ _ _
    · exact .boundsPanic _ _ _ _
theorem OkDet.index (t : TypeId) (x i : Value) : OkDet P (Instr.index t x i) := by
  unfold Instr.index
  refine .bind (.asIntOf _) fun ki => .bind (.und t) fun d => ?_
  split
  · refine .ite _ (fun _ => .bind (.sizeOf _) fun _ => .part _ _ _) fun _ => .boundsPanic _ _ _ _
  · split
    · exact .pure _
    · exact .boundsPanic _ _ _ _
  · exact .stuck _
theorem OkDet.field (t : TypeId) (x : Value) (f : Nat) : OkDet P (Instr.field t x f) := by
  unfold Instr.field
  refine .bind (.und t) fun d => ?_
  split
  · split
    · exact .bind (.asAgg x) fun _ => .part _ _ _
    · exact .stuck _
  · exact .stuck _
theorem OkDet.extract (x : Value) (i : Nat) : OkDet P (Instr.extract x i) := by
  unfold Instr.extract
  split
  · split
    · exact .pure _
    · exact .stuck _
  · exact .stuck _
theorem OkDet.build (t : TypeId) (ps : Array (Nat × Value)) : OkDet P (Instr.build t ps) := by
  unfold Instr.build
  refine .bind (.zeroValue t) fun z => .bind (.und t) fun d => ?_
  split
  · refine .bind (.mapMA _ (fun f => .bind (.sizeOf _) fun _ => .pure _) _) fun _ => ?_
    split
    · exact .pure _
    · exact .stuck _
  · refine .bind (.sizeOf _) fun n => ?_
    split
    · exact .pure _
    · exact .stuck _
  · exact .stuck _
theorem OkDet.sliceBound (x : Value) (y : Nat) (c : BoundsCode) : OkDet P (Instr.sliceBound x y c) := by
  unfold Instr.sliceBound
  exact .bind (.asIntOf _) fun ki => .ite _ (fun _ => .pure _) fun _ => .boundsPanic _ _ _ _
theorem OkDet.sliceBounds (s : Bool) (len cap : Nat) (lo hi mx : Option Value) : OkDet P (Instr.sliceBounds s len cap lo hi mx) := by
  have rest : ∀ (m h : Nat), OkDet P (do
      let l ← match lo with
        | some v => Go.Instr.sliceBound v h (if mx.isSome then .slice3C else .sliceB)
        | none => Pure.pure 0
      Pure.pure (l, h, m) : Sem (Nat × Nat × Nat)) := by
    intro m h
    cases lo with
    | none => exact .bind (.pure _) fun _ => .pure _
    | some v => exact .bind (OkDet.sliceBound _ _ _) fun _ => .pure _
  unfold Instr.sliceBounds
  cases mx with
  | none =>
    refine .bind (.pure _) fun m => ?_
    cases hi with
    | none => exact .bind (.pure _) fun h => rest m h
    | some v => exact .bind (OkDet.sliceBound _ _ _) fun h => rest m h
  | some v =>
    refine .bind (OkDet.sliceBound _ _ _) fun m => ?_
    cases hi with
    | none => exact .bind (.stuck _) fun h => rest m h
    | some v => exact .bind (OkDet.sliceBound _ _ _) fun h => rest m h
theorem OkDet.slice (t : TypeId) (x : Value) (lo hi mx : Option Value) : OkDet P (Instr.slice t x lo hi mx) := by
  unfold Instr.slice
  refine .bind (.und t) fun d => ?_
  split
  · split
    · refine .bind (.stuck _) fun _ => ?_
      exact .bind (.sliceBounds _ _ _ _ _ _) fun _ => .pure _
    · exact .bind (.sliceBounds _ _ _ _ _ _) fun _ => .pure _
  · exact .bind (.sliceBounds _ _ _ _ _ _) fun _ => .bind (.sizeOf _) fun _ => .pure _
  · refine .bind (.asAddr _) fun a => .bind (.und _) fun d => ?_
    split
    · exact .bind (.sliceBounds _ _ _ _ _ _) fun _ => .bind (.sizeOf _) fun _ => .pure _
    · exact .stuck _
  · exact .stuck _
theorem OkDet.sliceAt (t : TypeId) (x : Value) (lo hi mx : Option Value) : OkDet P (Instr.sliceAt t x lo hi mx) := by
  unfold Instr.sliceAt
  refine .bind (.und t) fun d => ?_
  split
  · exact .bind (.sureAddr _) fun _ => .bind (.sliceBounds _ _ _ _ _ _) fun _ => .bind (.sizeOf _) fun _ => .pure _
  · exact .slice _ _ _ _ _
theorem OkDet.intArith (op : BinOp) (k : IntKind) (x y : Int) : OkDet P (Op.intArith op k x y) := by
  unfold Op.intArith; split <;> first | exact .pure _ | exact .stuck _
theorem OkDet.intCmp (op : BinOp) (x y : Int) : OkDet P (Op.intCmp op x y) := by
  unfold Op.intCmp; split <;> first | exact .pure _ | exact .stuck _
theorem OkDet.intDiv (op : BinOp) (k : IntKind) (x y : Int) : OkDet P (Op.intDiv op k x y) := by
  unfold Op.intDiv; exact .ite _ (fun _ => .runtimePanic _) fun _ => by split <;> first | exact .pure _ | exact .stuck _
theorem OkDet.stringOp (op : BinOp) (x y : ByteArray) : OkDet P (Op.stringOp op x y) := by
  unfold Op.stringOp
  simp only []
  split <;> first | exact .pure _ | exact .stuck _ | exact .ite _ (fun _ => .unsupported _) fun _ => .pure _
end

def eqOp : BinOp → Bool | .eql | .neq => true | _ => false
def plainOp : BinOp → Bool | .add | .sub | .mul | .quo | .rem | .eql | .neq | .lss | .leq | .gtr | .geq => true | _ => false
def binShape (op : BinOp) (x y : Value) : Bool :=
  match x, y with
  | .int .., .int .. => true
  | .string _, .string _ => true
  | .bool _, .bool _ => eqOp op
  | .pointer none, .pointer _ => eqOp op
  | .pointer (some _), .pointer none => eqOp op
  | .slice none _ _, .slice _ _ _ => eqOp op
  | .slice (some _) _ _, .slice none _ _ => eqOp op
  | _, _ => false

def quietCallee : Callee → Bool
  | .builtin b => (match b with | .len | .cap | .min | .max => true | _ => false)
  | _ => false
def isInt : Value → Bool | .int .. => true | _ => false
def isLong : Value → Bool | .slice .. => true | .string _ => true | _ => false
def callShape (c : Callee) (args : Array Value) : Bool :=
  match c with
  | .builtin b => (match b with | .len | .cap => (args[0]?).all isLong | .min | .max => args.toList.all isInt | _ => true)
  | _ => true

/-- No struct, no array, no interface. -/
def flatTy (P : Program) (t : TypeId) : Bool := match P.underlying t with | some (.struct _) | some (.array ..) | some (.interface _) | none => false | _ => true
/-- Is the operation of a kind whose value hangs on its operands alone? -/
def quietKind (P : Program) (o : Oper) : Bool :=
  match o.op with
  | .move _ | .assign _ | .pick .. | .build .. | .indexAddr .. | .index .. | .field .. | .extract .. | .slice .. | .nilCheck _ | .makeFunc .. => true
  | .fieldAddr s _ f => ((P.underlying s).bind fun d => match d with | .struct fs => fs[f]? | _ => none).all (fun fd => ((P.info? fd.type).map (·.size)).all (· != 0))
  | .binOp op t _ _ _ => plainOp op && (!eqOp op || flatTy P t)
  | .unOp op _ _ => (match op with | .not | .neg => true | _ => false)
  | .call c => quietCallee c.callee
  | _ => false

/-- Are the operands such that it is so? -/
def quietAt (o : Oper) (ρ : Operand → Value) : Bool :=
  match o.op with
  | .nilCheck x => (match ρ x with | .pointer _ => true | .func (.func _) _ _ => true | .nilFunc => true | _ => false)
  | .binOp op _ x y _ => binShape op (ρ x) (ρ y)
  | .unOp _ _ x => (match ρ x with | .int .. => true | .bool _ => true | _ => false)
  | .call c => callShape c.callee (c.args.map ρ)
  | _ => true

/-- The value of it, in whatever world. -/
def ValDet (P : Program) (s : Sem Next) : Prop := ∀ w v w', s.run P w = .ok (.value v) w' → ∀ w2, s.run P w2 = .ok (.value v) w2

section
variable {P : Program}
theorem ValDet.of (s : Sem Next) (h : OkDet P s) : ValDet P s := fun w _ w' hr => h w _ w' hr
theorem ValDet.v {s : Sem Value} (h : OkDet P s) : ValDet P (do pure (.value (← s))) := .of _ (.bind h fun _ => .pure _)

theorem okDet_equal (t : TypeId) (x y : Value) (h : (match x, y with
    | .bool _, .bool _ => true | .pointer none, .pointer _ => true | .pointer (some _), .pointer none => true | .slice none _ _, .slice _ _ _ => true | .slice (some _) _ _, .slice none _ _ => true | _, _ => false) = true) : OkDet P (Op.equal t x y) := by
  unfold Op.equal Op.maxDepth
  show OkDet P (Op.equalIn (9999 + 1) t x y)
  unfold Op.equalIn
  refine .bind (.und t) fun d => ?_
  split at h <;> first
    | (cases d <;> first | exact .pure _ | exact .stuck _ | exact .unsupported _)
    | simp at h
theorem okDet_guard (op : BinOp) (t : TypeId) (X Y : Operand) (x y : Value) (h1 : ∀ a b, ¬ (x = .nilIface ∧ y = .nilIface) ∧ ¬ (x = .agg a ∧ y = .agg b)) : OkDet P (eqGuard op t X Y x y) := by
  unfold eqGuard
  refine .ite _ (fun _ => .pure _) fun _ => ?_
  split
  · exact absurd ⟨rfl, rfl⟩ (h1 #[] #[]).1
  · exact absurd ⟨rfl, rfl⟩ (h1 _ _).2
  · exact .pure _
theorem okDet_int (op : BinOp) (t : TypeId) (X Y : Operand) (k k' : IntKind) (a b : Int) (ho : plainOp op = true) : OkDet P (do eqGuard op t X Y (.int k a) (.int k' b); binOp op t (.int k a) (.int k' b)) := by
  refine .bind (okDet_guard _ _ _ _ _ _ (by simp)) fun _ => ?_
  unfold binOp
  cases op <;> first
    | (cases ho; done)
    | (refine .ite _ (fun _ => .stuck _) fun _ => ?_; first | exact .intArith _ _ _ _ | exact .intDiv _ _ _ _ | exact .intCmp _ _ _)
theorem okDet_string (op : BinOp) (t : TypeId) (X Y : Operand) (a b : ByteArray) (ho : plainOp op = true) : OkDet P (do eqGuard op t X Y (.string a) (.string b); binOp op t (.string a) (.string b)) := by
  refine .bind (okDet_guard _ _ _ _ _ _ (by simp)) fun _ => ?_
  unfold binOp
  cases op <;> first
    | (cases ho; done)
    | exact .stringOp _ _ _
theorem okDet_eq (op : BinOp) (t : TypeId) (X Y : Operand) (x y : Value) (ho : eqOp op = true) (h : (match x, y with
    | .bool _, .bool _ => true | .pointer none, .pointer _ => true | .pointer (some _), .pointer none => true | .slice none _ _, .slice _ _ _ => true | .slice (some _) _ _, .slice none _ _ => true | _, _ => false) = true) :
    OkDet P (do eqGuard op t X Y x y; binOp op t x y) := by
  refine .bind (okDet_guard _ _ _ _ _ _ ?_) fun _ => ?_
  · intro a b
    refine ⟨?_, ?_⟩ <;> (rintro ⟨rfl, rfl⟩; simp at h)
  · have he := okDet_equal (P := P) t x y h
    unfold binOp
    cases op <;> first
      | (cases ho; done)
      | (split at h <;> first | exact .bind he fun _ => .pure _ | simp at h)
set_option maxHeartbeats 4000000 in
theorem okDet_binOp (op : BinOp) (t : TypeId) (X Y : Operand) (x y : Value) (ho : plainOp op = true) (h : binShape op x y = true) : OkDet P (do eqGuard op t X Y x y; binOp op t x y) := by
  cases x <;> cases y <;> first
    | exact okDet_int _ _ _ _ _ _ _ _ ho
    | exact okDet_string _ _ _ _ _ _ ho
    | (simp [binShape] at h; done)
    | exact okDet_eq _ _ _ _ _ _ (by simpa [binShape] using h) rfl
    | (rename_i p q; cases p <;> cases q <;> first | exact okDet_eq _ _ _ _ _ _ (by simpa [binShape] using h) rfl | (simp [binShape] at h; done))
    | (rename_i p _ _ q _ _; cases p <;> cases q <;> first | exact okDet_eq _ _ _ _ _ _ (by simpa [binShape] using h) rfl | (simp [binShape] at h; done))

theorem okDet_len (ts : Array TypeId) (t : TypeId) (args : Array Value) (h : (args[0]?).all isLong = true) : OkDet P (Builtin.len_ ts t args) := by
  unfold Builtin.len_
  cases h0 : ts[0]? with
  | none => exact .stuck _
  | some t0 =>
    cases h1 : args[0]? with
    | none => exact .stuck _
    | some x =>
      rw [h1] at h
      simp only []
      refine .bind (.und _) fun d => ?_
      cases x <;> simp [isLong] at h
      · cases d <;> simp only [] <;> first | exact .pure _ | exact .stuck _ | (refine .bind (.und _) fun d' => ?_; split <;> first | exact .pure _ | exact .bind (.stuck _) fun _ => .pure _ | exact .stuck _)
      · cases d <;> simp only [] <;> first | exact .pure _ | exact .stuck _ | (refine .bind (.und _) fun d' => ?_; split <;> first | exact .pure _ | exact .bind (.stuck _) fun _ => .pure _ | exact .stuck _)
theorem okDet_cap (ts : Array TypeId) (t : TypeId) (args : Array Value) (h : (args[0]?).all isLong = true) : OkDet P (Builtin.cap_ ts t args) := by
  unfold Builtin.cap_
  cases h0 : ts[0]? with
  | none => exact .stuck _
  | some t0 =>
    cases h1 : args[0]? with
    | none => exact .stuck _
    | some x =>
      rw [h1] at h
      simp only []
      refine .bind (.und _) fun d => ?_
      cases x <;> simp [isLong] at h
      · cases d <;> simp only [] <;> first | exact .pure _ | exact .stuck _ | (refine .bind (.und _) fun d' => ?_; split <;> first | exact .pure _ | exact .bind (.stuck _) fun _ => .pure _ | exact .stuck _)
      · cases d <;> simp only [] <;> first | exact .pure _ | exact .stuck _ | (refine .bind (.und _) fun d' => ?_; split <;> first | exact .pure _ | exact .bind (.stuck _) fun _ => .pure _ | exact .stuck _)
theorem okDet_foldInt (f : Value → Value → Sem Value) (hf : ∀ k a k' b, ∃ n, f (.int k a) (.int k' b) = Pure.pure (.int k n)) : ∀ (l : List Value) (x : Value), isInt x = true → l.all isInt = true → OkDet P (l.foldlM f x)
  | [], x, _, _ => by rw [List.foldlM_nil]; exact .pure _
  | y :: l, x, hx, hl => by
    rw [List.foldlM_cons]
    rw [List.all_cons, Bool.and_eq_true] at hl
    obtain ⟨hy, hl⟩ := hl
    cases x <;> simp [isInt] at hx
    cases y <;> simp [isInt] at hy
    rename_i k a k' b
    obtain ⟨n, hn⟩ := hf k a k' b
    rw [hn]
    intro w v w' h
    rw [Sem.run_bind, Sem.run_pure, Result.andThen_ok] at h
    intro w2
    rw [Sem.run_bind, Sem.run_pure, Result.andThen_ok]
    exact okDet_foldInt f hf l _ rfl hl w v w' h w2
theorem okDet_min (ts : Array TypeId) (t : TypeId) (args : Array Value) (h : args.toList.all isInt = true) : OkDet P (Builtin.min_ ts t args) := by
  unfold Builtin.min_
  split
  · exact .stuck _
  · rename_i x rest he
    rw [he, List.all_cons, Bool.and_eq_true] at h
    exact okDet_foldInt _ (fun k a k' b => ⟨_, rfl⟩) rest x h.1 h.2
theorem okDet_max (ts : Array TypeId) (t : TypeId) (args : Array Value) (h : args.toList.all isInt = true) : OkDet P (Builtin.max_ ts t args) := by
  unfold Builtin.max_
  split
  · exact .stuck _
  · rename_i x rest he
    rw [he, List.all_cons, Bool.and_eq_true] at h
    exact okDet_foldInt _ (fun k a k' b => ⟨_, rfl⟩) rest x h.1 h.2

theorem valDet_of (o : Oper) (ρ : Operand → Value) (hk : quietKind P o = true) (hq : quietAt o ρ = true) : ValDet P (execOp ρ o) := by
  obtain ⟨dst, op, type, pos, after, guard⟩ := o
  cases op <;> simp only [quietKind] at hk <;> first | contradiction | simp only [execOp]
  case move x => exact .of _ (.pure _)
  case assign x => exact .of _ (.pure _)
  case pick c a b => exact .of _ (.bind (.asBool _) fun _ => .pure _)
  case build t ps => exact .v (.build _ _)
  case nilCheck x =>
    simp only [quietAt] at hq
    split
    · exact .of _ (.runtimePanic _)
    · exact .of _ (.runtimePanic _)
    · exact .of _ (.runtimePanic _)
    · rename_i hx; rw [hx] at hq; simp at hq
    · exact .of _ (.pure _)
  case binOp op t x y yt => exact .v (okDet_binOp op t x y _ _ (by rw [Bool.and_eq_true] at hk; exact hk.1) hq)
  case unOp op t x =>
    refine .v ?_
    simp only [quietAt] at hq
    unfold Op.unary
    cases op <;> simp at hk <;> (cases hx : ρ x <;> simp [hx] at hq) <;> first | exact .pure _ | exact .stuck _ | exact .intArith _ _ _ _
  case makeFunc fn first captured => exact .v (.pure _)
  case slice t x lo hi mx => exact .v (.sliceAt _ _ _ _ _)
  case fieldAddr s x f => exact .v (.fieldAt _ _ _ hk)
  case field t x f => exact .v (.field _ _ _)
  case indexAddr t x i => exact .v (.indexAt _ _ _)
  case index t x i => exact .v (.index _ _ _)
  case extract t i => exact .v (.extract _ _)
  case call c =>
    obtain ⟨callee, args, argTypes⟩ := c
    cases callee <;> simp only [quietCallee] at hk <;> (try (cases hk; done))
    rename_i b
    simp only [quietAt, callShape] at hq
    simp only [resolve]
    intro w v w' h w2
    rw [Sem.run_bind, Sem.run_pure, Result.andThen_ok] at h ⊢
    simp only [invoke] at h ⊢
    revert w v w' h w2
    show ValDet P _
    cases b <;> first | contradiction | skip
    · exact .v (okDet_cap _ _ _ hq)
    · exact .v (okDet_len _ _ _ hq)
    · exact .v (okDet_max _ _ _ hq)
    · exact .v (okDet_min _ _ _ hq)

theorem value_of (o : Oper) (ρ : Operand → Value) (hk : quietKind P o = true) {w w' : World} {n : Next} (h : (execOp ρ o).run P w = .ok n w') : ∃ v, n = .value v := by
  have hv : ∀ {s : Sem Value}, (do pure (.value (← s)) : Sem Next).run P w = .ok n w' → ∃ v, n = .value v := by
    intro s h
    rw [Sem.run_bind] at h
    cases hr : s.run P w with
    | ok a w1 => rw [hr] at h; simp only [Result.andThen_ok, Sem.run_pure] at h; injection h with h1 _; exact ⟨a, h1.symm⟩
    | halt x w1 => rw [hr] at h; cases h
  obtain ⟨dst, op, type, pos, after, guard⟩ := o
  cases op <;> simp only [quietKind] at hk <;> first | contradiction | simp only [execOp] at h
  case move x => simp only [Sem.run_pure] at h; injection h with h1 _; exact ⟨_, h1.symm⟩
  case assign x => simp only [Sem.run_pure] at h; injection h with h1 _; exact ⟨_, h1.symm⟩
  case pick c a b =>
    rw [Sem.run_bind] at h
    cases hr : (asBool (ρ c)).run P w with
    | ok a w1 => rw [hr] at h; simp only [Result.andThen_ok, Sem.run_pure] at h; injection h with h1 _; exact ⟨_, h1.symm⟩
    | halt x w1 => rw [hr] at h; cases h
  case nilCheck x =>
    have hp : ∀ (e : RuntimeError), (runtimePanic e : Sem Next).run P w ≠ .ok n w' := by
      intro e
      unfold Go.runtimePanic
      refine never_bind (fun p => ?_) w n w'
      cases e <;> first
        | exact never_panic _
        | exact never_bind fun _ => never_bind fun _ => never_panic _
    split at h
    · exact absurd h (hp _)
    · exact absurd h (hp _)
    · exact absurd h (hp _)
    · split at h
      · exact absurd h (hp _)
      · revert h
        have : ∀ (s : Sem Unit) (k : Sem Next), (∀ w w', k.run P w = .ok n w' → ∃ v, n = .value v) → (s >>= fun _ => k).run P w = .ok n w' → ∃ v, n = .value v := by
          intro s k hk h
          rw [Sem.run_bind] at h
          cases hr : s.run P w with
          | ok a w1 => rw [hr] at h; exact hk _ _ h
          | halt x w1 => rw [hr] at h; cases h
        intro h
        rw [Sem.run_bind] at h
        have hprog : (Go.program).run P w = Result.ok P w := rfl
        rw [hprog, Result.andThen_ok, Sem.run_bind] at h
        rename_i t v _
        cases hr : (nilAhead (P.types.size + Made.depth) t v _).run P w with
        | ok a w1 =>
          rw [hr] at h
          simp only [Result.andThen_ok] at h
          split at h
          · simp only [Sem.run_bind, unsupported, Sem.run, Result.andThen_halt] at h; cases h
          · simp only [Sem.run_pure] at h; injection h with h1 _; exact ⟨_, h1.symm⟩
        | halt x w1 => rw [hr] at h; cases h
      · simp only [Sem.run_pure] at h; injection h with h1 _; exact ⟨_, h1.symm⟩
    · simp only [Sem.run_pure] at h; injection h with h1 _; exact ⟨_, h1.symm⟩
  case call c =>
    obtain ⟨callee, args, argTypes⟩ := c
    cases callee <;> simp only [quietCallee] at hk <;> (try (cases hk; done))
    rename_i b
    simp only [resolve] at h
    rw [Sem.run_bind, Sem.run_pure, Result.andThen_ok] at h
    simp only [invoke] at h
    cases b <;> first | contradiction | exact hv h
  all_goals exact hv h

theorem quietAt_congr (o : Oper) (ρ ρ' : Operand → Value) (h : ∀ x ∈ o.op.operands, ρ x = ρ' x) : quietAt o ρ = quietAt o ρ' := by
  obtain ⟨dst, op, type, pos, after, guard⟩ := o
  cases op <;> simp only [quietAt]
  case nilCheck x => rw [h x (by simp [Op.operands])]
  case binOp op t x y yt => rw [h x (by simp [Op.operands]), h y (by simp [Op.operands])]
  case unOp op t x => rw [h x (by simp [Op.operands])]
  case call c =>
    have : c.args.map ρ = c.args.map ρ' := by
      apply Array.map_congr_left
      intro x hx
      exact h x (by simp [Op.operands, Call.operands, hx])
    rw [this]

/-- Does the check look at its operands? -/
def looks (o : Oper) : Bool := match o.op with | .nilCheck _ | .binOp .. | .unOp .. | .call _ => true | _ => false
theorem quietAt_of_not (o : Oper) (ρ : Operand → Value) (h : looks o = false) : quietAt o ρ = true := by
  obtain ⟨dst, op, type, pos, after, guard⟩ := o
  cases op <;> simp only [looks, quietAt] at h ⊢ <;> cases h

/-- The loud ones of a list of operations, by number. -/
def loudOf (P : Program) : Nat → List Oper → List Nat
  | _, [] => []
  | k, o :: l => if quietKind P o then loudOf P (k + 1) l else k :: loudOf P (k + 1) l

/-- No operation from here on writes a slot at which the check looks. -/
def stableB (ops : Array Oper) : List Oper → Bool
  | [] => true
  | o :: l => (!looks o || (o :: l).all fun j => match j.dst with | some d => !(o.looksAt ops).contains d | none => true) && stableB ops l

/-- At the region's end: are the operands such that the quiet ones hang on them alone? -/
def shapesOk (P : Program) (ops : Array Oper) (l : List Oper) (a : Act) : Bool :=
  l.all fun o => !(quietKind P o && looks o) || !Region.wanted o (yielded ops a.tmps) || quietAt o a.eval

/-- The end, and no other way out. -/
def atEnd (Q : Act → World → Prop) : Exit → Act → World → Prop
  | .normal, a, w => Q a w
  | _, _, _ => False

/-- At a drawn region's end. -/
theorem atEnd_mk {ops : Array Oper} {l : List Oper} {Q : Act → World → Prop} {a : Act} {w : World} (h1 : shapesOk P ops l a = true) (h2 : Q a w) :
    atEnd (fun a w => shapesOk P ops l a = true ∧ Q a w) .normal a w := ⟨h1, h2⟩
theorem wp_strict {o : Oper} {a : Act} {w : World} {K : Act → World → Prop} {Q : Act → World → Prop} (h : o.wp P a w K (atEnd Q)) : o.wp P a w K noExit := by
  unfold Oper.wp at *
  generalize (execOp a.eval o).run P w = r at *
  cases r with
  | ok n w' =>
    cases n <;> simp only [Oper.upon] at h ⊢
    case enter f args =>
      exact Calls.mono h (fun e w'' he => by
        cases e
        case returned v => exact he
        case panicked c => exact he.elim
        case outgrown => obtain ⟨_, _, h⟩ := he; exact h.elim)
    case row => exact h
    all_goals exact h
  | halt x w' => cases x <;> simp only [Oper.upon, atEnd] at h

theorem wpList_cons {ops : Array Oper} {Q : Act → World → Prop} {o : Oper} {l : List Oper} {a : Act} {w : World} (h : wpList P ops (atEnd Q) (o :: l) a w) :
    if Region.wanted o (yielded ops a.tmps) then o.wp P a w (wpList P ops (atEnd Q) l) noExit else wpList P ops (atEnd Q) l (a.put o.dst undef) w := by
  unfold wpList at h
  split
  · rename_i hw
    rw [if_pos hw] at h
    rcases h with h | ⟨_, _, _, h⟩
    · exact wp_strict h
    · exact h.elim
  · rename_i hw; rw [if_neg hw] at h; exact h

theorem wpList_run {ops : Array Oper} {Q : Act → World → Prop} : ∀ (l : List Oper) (a : Act) (w : World), wpList P ops (atEnd Q) l a w →
    ∃ a' w', Q a' w' ∧ ∀ t, (∀ o ∈ l, o.dst ≠ some t) → a'.tmps[t]? = a.tmps[t]?
  | [], a, w, h => ⟨a, w, h, fun _ _ => rfl⟩
  | o :: l, a, w, h => by
    have put : ∀ (a : Act) (v : Value) t, o.dst ≠ some t → (a.put o.dst v).tmps[t]? = a.tmps[t]? := by
      intro a v t ht
      cases hd : o.dst with
      | none => rfl
      | some d => simp [Act.put, Array.getElem?_setIfInBounds_ne (show d ≠ t from fun e => ht (by rw [hd, e]))]
    have h1 := wpList_cons h
    split at h1
    · obtain ⟨a1, w1, ⟨ds, u, rfl⟩, h2⟩ := wp_exists (wp_after h1)
      obtain ⟨a', w', hq, ht⟩ := wpList_run l _ w1 h2
      refine ⟨a', w', hq, fun t hn => ?_⟩
      rw [ht t (fun o' ho' => hn o' (by simp [ho'])), put _ _ t (hn o (by simp))]
    · obtain ⟨a', w', hq, ht⟩ := wpList_run l _ w h1
      refine ⟨a', w', hq, fun t hn => ?_⟩
      rw [ht t (fun o' ho' => hn o' (by simp [ho'])), put _ _ t (hn o (by simp))]

theorem same_ends {ops : Array Oper} {o : Oper} {a a' : Act} (h : ∀ t, t ∈ o.looksAt ops → a'.tmps[t]? = a.tmps[t]?) :
    quietAt o a'.eval = quietAt o a.eval ∧ Region.wanted o (yielded ops a'.tmps) = Region.wanted o (yielded ops a.tmps) := by
  refine ⟨quietAt_congr o _ _ fun x hx => ?_, ?_⟩
  · cases x with
    | tmp t =>
      have := h t (List.mem_append_left _ (List.mem_filterMap.2 ⟨.tmp t, by simpa using hx, rfl⟩))
      simp [Act.eval, this]
    | _ => rfl
  · unfold Region.wanted
    cases hg : o.guard with
    | none => rfl
    | some gw =>
      obtain ⟨g, want⟩ := gw
      have hy : yielded ops a'.tmps g = yielded ops a.tmps g := by
        unfold yielded
        cases ht : (ops[g]?).bind (·.dst) with
        | none => rfl
        | some t =>
          have := h t (by simp [Oper.looksAt, hg, ht])
          simp [this]
      simp only [hy]

theorem mem_loudOf : ∀ (l : List Oper) (k j : Nat) (o : Oper), l[j]? = some o → ((loudOf P k l).contains (k + j) = true ↔ quietKind P o = false)
  | [], _, _, _, h => by simp at h
  | o' :: l, k, j, o, h => by
    have below : ∀ (l : List Oper) (k i : Nat), i < k → (loudOf P k l).contains i = false := by
      intro l
      induction l with
      | nil => intro k i _; rfl
      | cons x l ih =>
        intro k i hi
        unfold loudOf
        split
        · exact ih (k + 1) i (by omega)
        · simp only [List.contains_cons, ih (k + 1) i (by omega), Bool.or_false, beq_eq_false_iff_ne]
          omega
    unfold loudOf
    cases j with
    | zero =>
      simp only [List.getElem?_cons_zero, Option.some.injEq] at h
      subst h
      split
      · rename_i hq; simp [hq]; exact fun hm => by have := below l (k+1) k (by omega); simp at this; exact absurd hm this
      · rename_i hq; simp [hq]
    | succ j =>
      simp only [List.getElem?_cons_succ] at h
      have ih := mem_loudOf l (k + 1) j o h
      have e : k + 1 + j = k + (j + 1) := by omega
      rw [e] at ih
      split
      · exact ih
      · rw [List.contains_cons]
        have : (k + (j + 1) == k) = false := by rw [beq_eq_false_iff_ne]; omega
        rw [this, Bool.false_or]
        exact ih

theorem wpLex_of_wpList {ops : Array Oper} {Q : Act → World → Prop} {L : List Nat} {full : List Oper} : ∀ (l : List Oper) (k : Nat) (a : Act) (w : World),
    (∀ j o, l[j]? = some o → (L.contains (k + j) = true ↔ quietKind P o = false)) → (∀ o ∈ l, o ∈ full) → stableB ops l = true →
    wpList P ops (atEnd fun a w => shapesOk P ops full a = true ∧ Q a w) l a w → wpLex P ops (fun _ => True) L Q k l a w
  | [], _, _, _, _, _, _, h => h.2
  | o :: l, k, a, w, hL, hfull, hst, h => by
    have rest : ∀ a w, wpList P ops (atEnd fun a w => shapesOk P ops full a = true ∧ Q a w) l a w → wpLex P ops (fun _ => True) L Q (k + 1) l a w := fun a w h =>
      wpLex_of_wpList l (k + 1) a w (fun j o' ho' => by have := hL (j + 1) o' (by simpa using ho'); rwa [show k + (j + 1) = k + 1 + j from by omega] at this)
        (fun o' ho' => hfull o' (by simp [ho'])) (by simp only [stableB, Bool.and_eq_true] at hst; exact hst.2) h
    have h1 := wpList_cons h
    have hk := hL 0 o rfl
    rw [Nat.add_zero] at hk
    unfold wpLex
    split
    · rename_i hw
      rw [if_pos hw] at h1
      unfold stepL
      split
      · exact wp_monoQ (fun a w hh => ⟨trivial, rest a w hh⟩) h1
      · rename_i hl
        have hq : quietKind P o = true := by
          cases hb : quietKind P o
          · exact absurd (hk.2 hb) hl
          · rfl
        have hshape : quietAt o a.eval = true := by
          cases hlk : looks o
          · exact quietAt_of_not o _ hlk
          · obtain ⟨a', w', ⟨hsh, _⟩, ht⟩ := wpList_run (o :: l) a w h
            simp only [stableB, hlk, Bool.not_true, Bool.false_or, Bool.and_eq_true] at hst
            have hall := List.all_eq_true.1 hst.1
            obtain ⟨e1, e2⟩ := same_ends (ops := ops) (o := o) (a := a) (a' := a') (fun t hm => ht t fun o' ho' hd => by
              have := hall o' ho'
              rw [hd] at this
              simp at this
              exact this hm)
            have := List.all_eq_true.1 hsh o (hfull o (by simp))
            rw [e1, e2, hw, hq, hlk] at this
            simpa using this
        unfold same
        have hh := h1
        unfold Oper.wp at hh
        cases hr : (execOp a.eval o).run P w with
        | ok n w1 =>
          obtain ⟨v, rfl⟩ := value_of o a.eval hq hr
          rw [hr] at hh
          have hv := valDet_of (P := P) o a.eval hq hshape w v w1 hr
          have hw1 := hv w
          rw [hr] at hw1
          injection hw1 with _ hw1
          subst hw1
          exact ⟨v, fun w2 _ => .inl (hv w2), rest _ _ hh⟩
        | halt x w1 => rw [hr] at hh; cases x <;> simp only [Oper.upon, noExit] at hh
    · rename_i hw
      rw [if_neg hw] at h1
      exact rest _ _ h1

/-- The region's check: the loud operations stand in one order, all others are apart. -/
def drawOk (P : Program) (l : List Oper) : Bool := lexOk l.toArray (loudOf P 0 l) && stableB l.toArray l

/-- A REGION THAT DRAWS ITS ORDER, WALKED BY THE PLAIN RULES IN THE TEXT's ORDER. -/
theorem wp_region_text {id : Nat} {Q : Exit → Act → World → Prop} {a : Act} {w : World} {l : List Oper} (hm : P.follows .mixedOrders = true) (hB : drawOk P l = true)
    (h : wpList P l.toArray (atEnd fun a w => shapesOk P l.toArray l a = true ∧ Q .normal a w) l a w.drew) : (Code.region id l.toArray true).wp P Q a w := by
  simp only [drawOk, Bool.and_eq_true] at hB
  exact wp_region_lex (loudOf P 0 l) (fun _ => True) hm hB.1 trivial (fun _ _ _ => trivial)
    (wpLex_of_wpList (full := l) l 0 a w.drew (fun j o ho => mem_loudOf l 0 j o ho) (fun _ h => h) hB.2 h)
end
end Go.Sk
