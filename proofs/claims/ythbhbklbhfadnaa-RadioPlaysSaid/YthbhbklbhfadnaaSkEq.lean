/- == and != of structs whose cells are whole numbers and bools. -/
import Derived.Test.YthbhbklbhfadnaaSkWalk
import Derived.Laws.StructEq
namespace Go.Sk
open Go

/-- The kinds of a type's cells: 'some k': a whole number; 'none': a bool. -/
def kindsOf (P : Program) : Nat → TypeId → Option (List (Option IntKind))
  | 0, _ => none
  | d + 1, t =>
    match P.underlying t with
    | some (.int k) => some [some k]
    | some .bool => some [none]
    | some (.struct fs) => if P.stoodInHeld t then none else fieldKinds (kindsOf P d) fs.toList 0
    | _ => none
where
  fieldKinds (K : TypeId → Option (List (Option IntKind))) : List Field → Nat → Option (List (Option IntKind))
  | [], _ => some []
  | f :: fs, off =>
    if f.name = "_" ∨ f.offset ≠ off then none else
    match K f.type with
    | none => none
    | some a => if sizeB P f.type a.length then (fieldKinds K fs (off + a.length)).map (a ++ ·) else none

def ofKind : Option IntKind → Value → Bool
  | some k, .int k' _ => k == k'
  | none, .bool _ => true
  | _, _ => false
def ofKinds : List (Option IntKind) → List Value → Bool
  | [], [] => true
  | k :: ks, v :: vs => ofKind k v && ofKinds ks vs
  | _, _ => false
def cellEq : Value → Value → Bool
  | .int _ a, .int _ b => a == b
  | .bool a, .bool b => a == b
  | _, _ => false
def cellsEq : List Value → List Value → Bool
  | [], [] => true
  | a :: as, b :: bs => cellEq a b && cellsEq as bs
  | _, _ => false

theorem ofKinds_append : ∀ (a b : List (Option IntKind)) (vs : List Value), ofKinds (a ++ b) vs = true → ofKinds a (vs.take a.length) = true ∧ ofKinds b (vs.drop a.length) = true
  | [], b, vs, h => ⟨by simp [ofKinds], by simpa using h⟩
  | k :: a, b, [], h => by simp [ofKinds] at h
  | k :: a, b, v :: vs, h => by
    simp only [List.cons_append, ofKinds, Bool.and_eq_true] at h
    obtain ⟨h1, h2⟩ := ofKinds_append a b vs h.2
    exact ⟨by simp [ofKinds, h.1, h1], by simpa using h2⟩
theorem ofKinds_length : ∀ (a : List (Option IntKind)) (vs : List Value), ofKinds a vs = true → vs.length = a.length
  | [], [], _ => rfl
  | [], _ :: _, h => by simp [ofKinds] at h
  | _ :: _, [], h => by simp [ofKinds] at h
  | k :: a, v :: vs, h => by
    simp only [ofKinds, Bool.and_eq_true] at h
    simp [ofKinds_length a vs h.2]
theorem cellsEq_append : ∀ (a b c d : List Value), a.length = c.length → cellsEq (a ++ b) (c ++ d) = (cellsEq a c && cellsEq b d)
  | [], b, [], d, _ => by simp [cellsEq]
  | [], _, _ :: _, _, h => by simp at h
  | _ :: _, _, [], _, h => by simp at h
  | x :: a, b, y :: c, d, h => by
    simp only [List.cons_append, cellsEq, cellsEq_append a b c d (by simpa using h), Bool.and_assoc]

section
variable {P : Program}
/-- The value that a type's cells make. -/
def valOf (P : Program) (t : TypeId) (xs : List Value) : Value :=
  match P.underlying t with
  | some (.struct _) => .agg xs.toArray
  | _ => xs.headD undef

theorem run_part {t : TypeId} {d : Nat} {ks : List (Option IntKind)} (hk : kindsOf P d t = some ks) (hs : sizeB P t ks.length = true) (xs : List Value) (off : Nat) (w : World) (hx : off + ks.length ≤ xs.length) :
    (part t xs.toArray off).run P w = .ok (valOf P t ((xs.drop off).take ks.length)) w := by
  cases d with
  | zero => simp [kindsOf] at hk
  | succ d =>
    unfold kindsOf at hk
    unfold part valOf isAgg
    cases hu : P.underlying t with
    | none => rw [hu] at hk; cases hk
    | some dsc =>
      rw [hu] at hk
      cases dsc <;> simp only [] at hk <;> first | (cases hk; done) | skip
      case int k =>
        injection hk with hk
        subst hk
        simp only [List.length_singleton] at hx
        simp only [Sem.run_bind, run_underlying hu, Result.andThen_ok, Sem.run_pure, Bool.false_eq_true, if_false]
        have h1 : xs.toArray[off]? = some (xs[off]'(by omega)) := by simp [show off < xs.length by omega]
        rw [h1]
        simp only [Sem.run_pure]
        rw [List.drop_eq_getElem_cons (show off < xs.length by omega)]
        rfl
      case bool =>
        injection hk with hk
        subst hk
        simp only [List.length_singleton] at hx
        simp only [Sem.run_bind, run_underlying hu, Result.andThen_ok, Sem.run_pure, Bool.false_eq_true, if_false]
        have h1 : xs.toArray[off]? = some (xs[off]'(by omega)) := by simp [show off < xs.length by omega]
        rw [h1]
        simp only [Sem.run_pure]
        rw [List.drop_eq_getElem_cons (show off < xs.length by omega)]
        rfl
      case struct fs =>
        simp only [Sem.run_bind, run_underlying hu, Result.andThen_ok, Sem.run_pure, if_true, run_sizeOf hs]
        have : xs.toArray.extract off (off + ks.length) = ((xs.drop off).take ks.length).toArray := by
          rw [List.extract_toArray, List.extract_eq_take_drop]; congr 2; omega
        rw [this]

theorem run_eqFields (d : Nat) (ih : ∀ (t : TypeId) (ks : List (Option IntKind)) (xs ys : List Value) (w : World), kindsOf P d t = some ks → ofKinds ks xs = true → ofKinds ks ys = true →
      (Op.equalIn d t (valOf P t xs) (valOf P t ys)).run P w = .ok (cellsEq xs ys) w) (w : World) :
    ∀ (fs : List Field) (off : Nat) (ks : List (Option IntKind)) (xs ys : List Value), kindsOf.fieldKinds P (kindsOf P d) fs off = some ks → ofKinds ks (xs.drop off) = true → ofKinds ks (ys.drop off) = true → off ≤ xs.length → off ≤ ys.length →
      (Op.eqFields d xs.toArray ys.toArray fs).run P w = .ok (cellsEq (xs.drop off) (ys.drop off)) w
  | [], off, ks, xs, ys, hk, hx, hy, _, _ => by
    simp only [kindsOf.fieldKinds, Option.some.injEq] at hk
    subst hk
    have h1 := ofKinds_length _ _ hx
    have h2 := ofKinds_length _ _ hy
    have e1 : xs.drop off = [] := List.eq_nil_of_length_eq_zero h1
    have e2 : ys.drop off = [] := List.eq_nil_of_length_eq_zero h2
    simp [Op.eqFields, e1, e2, cellsEq]
  | f :: fs, off, ks, xs, ys, hk, hx, hy, lx, ly => by
    unfold kindsOf.fieldKinds at hk
    by_cases hc : f.name = "_" ∨ f.offset ≠ off
    · rw [if_pos hc] at hk; cases hk
    · rw [if_neg hc] at hk
      have hn : f.name ≠ "_" := fun h => hc (.inl h)
      have ho : f.offset = off := Classical.byContradiction fun h => hc (.inr h)
      cases ha : kindsOf P d f.type with
      | none => rw [ha] at hk; cases hk
      | some a =>
        rw [ha] at hk
        simp only [] at hk
        by_cases hsz : sizeB P f.type a.length = true
        · rw [if_pos hsz] at hk
          cases hr : kindsOf.fieldKinds P (kindsOf P d) fs (off + a.length) with
          | none => rw [hr] at hk; cases hk
          | some b =>
            rw [hr] at hk
            simp only [Option.map_some, Option.some.injEq] at hk
            subst hk
            obtain ⟨x1, x2⟩ := ofKinds_append a b _ hx
            obtain ⟨y1, y2⟩ := ofKinds_append a b _ hy
            have lx' : a.length ≤ (xs.drop off).length := by have := ofKinds_length _ _ hx; simp at this; simp; omega
            have ly' : a.length ≤ (ys.drop off).length := by have := ofKinds_length _ _ hy; simp at this; simp; omega
            simp only [List.length_drop] at lx' ly'
            rw [List.drop_drop] at x2 y2
            have hrest := run_eqFields d ih w fs (off + a.length) b xs ys hr x2 y2 (by omega) (by omega)
            unfold Op.eqFields
            rw [if_pos hn]
            simp only [ho, Sem.run_bind, run_part ha hsz xs off w (by omega), run_part ha hsz ys off w (by omega), Result.andThen_ok, ih f.type a _ _ w ha x1 y1]
            have hsplit : cellsEq (xs.drop off) (ys.drop off) = (cellsEq ((xs.drop off).take a.length) ((ys.drop off).take a.length) && cellsEq (xs.drop (off + a.length)) (ys.drop (off + a.length))) := by
              have e1 : xs.drop off = (xs.drop off).take a.length ++ xs.drop (off + a.length) := by rw [← List.drop_drop, List.take_append_drop]
              have e2 : ys.drop off = (ys.drop off).take a.length ++ ys.drop (off + a.length) := by rw [← List.drop_drop, List.take_append_drop]
              conv => lhs; rw [e1, e2]
              exact cellsEq_append _ _ _ _ (by simp only [List.length_take, List.length_drop]; omega)
            rw [hsplit]
            cases hq : cellsEq ((xs.drop off).take a.length) ((ys.drop off).take a.length)
            · simp
            · simpa using hrest
        · rw [if_neg hsz] at hk; cases hk

theorem run_equalIn_kinds : ∀ (d : Nat) (t : TypeId) (ks : List (Option IntKind)) (xs ys : List Value) (w : World), kindsOf P d t = some ks → ofKinds ks xs = true → ofKinds ks ys = true →
    (Op.equalIn d t (valOf P t xs) (valOf P t ys)).run P w = .ok (cellsEq xs ys) w
  | 0, _, _, _, _, _, hk, _, _ => by simp [kindsOf] at hk
  | d + 1, t, ks, xs, ys, w, hk, hx, hy => by
    unfold kindsOf at hk
    cases hu : P.underlying t with
    | none => rw [hu] at hk; cases hk
    | some dsc =>
      rw [hu] at hk
      cases dsc <;> simp only [] at hk <;> first | (cases hk; done) | skip
      case int k =>
        injection hk with hk
        subst hk
        obtain ⟨x, rfl⟩ := List.length_eq_one_iff.1 (ofKinds_length _ _ hx)
        obtain ⟨y, rfl⟩ := List.length_eq_one_iff.1 (ofKinds_length _ _ hy)
        simp only [ofKinds, Bool.and_true] at hx hy
        cases x <;> simp [ofKind] at hx
        cases y <;> simp [ofKind] at hy
        subst hx hy
        simp [valOf, hu, Op.equalIn, run_underlying hu, cellsEq, cellEq]
      case bool =>
        injection hk with hk
        subst hk
        obtain ⟨x, rfl⟩ := List.length_eq_one_iff.1 (ofKinds_length _ _ hx)
        obtain ⟨y, rfl⟩ := List.length_eq_one_iff.1 (ofKinds_length _ _ hy)
        simp only [ofKinds, Bool.and_true] at hx hy
        cases x <;> simp [ofKind] at hx
        cases y <;> simp [ofKind] at hy
        simp [valOf, hu, Op.equalIn, run_underlying hu, cellsEq, cellEq]
      case struct fs =>
        split at hk
        · cases hk
        · rename_i hst
          have hf : P.fieldsOf t = fs := by simp [Program.fieldsOf, hu]
          have hv : ∀ zs : List Value, valOf P t zs = .agg zs.toArray := fun zs => by simp [valOf, hu]
          rw [hv, hv, run_equalIn_struct w d t _ _ (by rw [hf]; exact hu) (by simpa using hst), hf]
          have := run_eqFields d (fun t ks xs ys w => run_equalIn_kinds d t ks xs ys w) w fs.toList 0 ks xs ys hk (by simpa using hx) (by simpa using hy) (Nat.zero_le _) (Nat.zero_le _)
          simpa using this

def aggStruct (P : Program) (t : TypeId) : Bool := match P.underlying t with | some (.struct _) => true | _ => false
/-- all that is asked of the type. -/
def eqTy (P : Program) (t : TypeId) (ks : List (Option IntKind)) : Bool := aggStruct P t && (kindsOf P 9 t == some ks) && !P.eqGuardType P.depth t
theorem kindsOf_mono (P : Program) : ∀ (d : Nat) (t : TypeId) (ks : List (Option IntKind)), kindsOf P d t = some ks → kindsOf P (d + 1) t = some ks
  | 0, _, _, h => by simp [kindsOf] at h
  | d + 1, t, ks, h => by
    have hf : ∀ (fs : List Field) (off : Nat) (ks : List (Option IntKind)), kindsOf.fieldKinds P (kindsOf P d) fs off = some ks → kindsOf.fieldKinds P (kindsOf P (d + 1)) fs off = some ks := by
      intro fs
      induction fs with
      | nil => intro off ks h; exact h
      | cons f fs ih =>
        intro off ks h
        unfold kindsOf.fieldKinds at h ⊢
        split at h
        · cases h
        · rename_i hc
          rw [if_neg hc]
          cases ha : kindsOf P d f.type with
          | none => rw [ha] at h; cases h
          | some a =>
            rw [ha] at h
            rw [kindsOf_mono P d f.type a ha]
            simp only [] at h ⊢
            split at h
            · rename_i hs
              rw [if_pos hs]
              cases hr : kindsOf.fieldKinds P (kindsOf P d) fs (off + a.length) with
              | none => rw [hr] at h; cases h
              | some b => rw [hr] at h; rw [ih _ _ hr]; exact h
            · cases h
    unfold kindsOf at h ⊢
    cases hu : P.underlying t with
    | none => rw [hu] at h; cases h
    | some dsc =>
      rw [hu] at h
      cases dsc <;> first | exact h | skip
      simp only [] at h ⊢
      split at h
      · cases h
      · rename_i hs; rw [if_neg hs]; exact hf _ _ _ h
theorem kindsOf_le (P : Program) (t : TypeId) (ks : List (Option IntKind)) (d : Nat) (h : kindsOf P d t = some ks) : ∀ n, kindsOf P (d + n) t = some ks
  | 0 => h
  | n + 1 => kindsOf_mono P (d + n) t ks (kindsOf_le P t ks d h n)
theorem run_equal_struct {t : TypeId} {ks : List (Option IntKind)} {xs ys : List Value} (w : World) (ht : eqTy P t ks = true) (hx : ofKinds ks xs = true) (hy : ofKinds ks ys = true) :
    (Op.equal t (.agg xs.toArray) (.agg ys.toArray)).run P w = .ok (cellsEq xs ys) w := by
  simp only [eqTy, Bool.and_eq_true, beq_iff_eq] at ht
  obtain ⟨⟨h1, h2⟩, _⟩ := ht
  have hv : ∀ zs : List Value, valOf P t zs = .agg zs.toArray := fun zs => by
    unfold aggStruct at h1; unfold valOf
    cases hu : P.underlying t with
    | none => rw [hu] at h1; cases h1
    | some d => rw [hu] at h1; cases d <;> first | rfl | (cases h1; done)
  have := run_equalIn_kinds Op.maxDepth t ks xs ys w (kindsOf_le P t ks 9 h2 9991) hx hy
  rwa [hv, hv] at this
theorem run_guard_struct {op : BinOp} {t : TypeId} {ks : List (Option IntKind)} {xs ys : Array Value} {X Y : Operand} (w : World) (ht : eqTy P t ks = true) : (eqGuard op t X Y (.agg xs) (.agg ys)).run P w = .ok () w := by
  simp only [eqTy, Bool.and_eq_true, Bool.not_eq_true'] at ht
  unfold eqGuard
  split <;> simp [program, Sem.run, Pure.pure, Bind.bind, Sem.bind, ht.2]
theorem run_eql_struct {t : TypeId} {ks : List (Option IntKind)} {xs ys : List Value} {X Y : Operand} (w : World) (ht : eqTy P t ks = true) (hx : ofKinds ks xs = true) (hy : ofKinds ks ys = true) :
    (do eqGuard .eql t X Y (.agg xs.toArray) (.agg ys.toArray); binOp .eql t (.agg xs.toArray) (.agg ys.toArray) : Sem Value).run P w = .ok (.bool (cellsEq xs ys)) w := by
  rw [Sem.run_bind, run_guard_struct w ht]
  simp only [Result.andThen_ok, binOp, Sem.run_bind, run_equal_struct w ht hx hy, Sem.run_pure]
theorem run_neq_struct {t : TypeId} {ks : List (Option IntKind)} {xs ys : List Value} {X Y : Operand} (w : World) (ht : eqTy P t ks = true) (hx : ofKinds ks xs = true) (hy : ofKinds ks ys = true) :
    (do eqGuard .neq t X Y (.agg xs.toArray) (.agg ys.toArray); binOp .neq t (.agg xs.toArray) (.agg ys.toArray) : Sem Value).run P w = .ok (.bool (!cellsEq xs ys)) w := by
  rw [Sem.run_bind, run_guard_struct w ht]
  simp only [Result.andThen_ok, binOp, Sem.run_bind, run_equal_struct w ht hx hy, Sem.run_pure]
section
variable {ops : Array Oper} {rest : List Oper} {o : Oper} {a : Act} {w : World} {Q : Exit → Act → World → Prop}
theorem wl_eqlS {t yt : TypeId} {x y : Operand} {ks : List (Option IntKind)} {xs ys : List Value} (ho : o.op = .binOp .eql t x y yt) (hw : Region.wanted o (yielded ops a.tmps) = true) (hx : a.eval x = .agg xs.toArray) (hy : a.eval y = .agg ys.toArray)
    (ht : eqTy P t ks = true) (kx : ofKinds ks xs = true) (ky : ofKinds ks ys = true) (h : wpList P ops Q rest (a.put o.dst (.bool (cellsEq xs ys))) w) : wpList P ops Q (o :: rest) a w :=
  wl_val hw (w' := w) (by simp only [execOp, ho, hx, hy]; rw [Sem.run_bind, run_eql_struct w ht kx ky]; rfl) h
theorem wl_neqS {t yt : TypeId} {x y : Operand} {ks : List (Option IntKind)} {xs ys : List Value} (ho : o.op = .binOp .neq t x y yt) (hw : Region.wanted o (yielded ops a.tmps) = true) (hx : a.eval x = .agg xs.toArray) (hy : a.eval y = .agg ys.toArray)
    (ht : eqTy P t ks = true) (kx : ofKinds ks xs = true) (ky : ofKinds ks ys = true) (h : wpList P ops Q rest (a.put o.dst (.bool (!cellsEq xs ys))) w) : wpList P ops Q (o :: rest) a w :=
  wl_val hw (w' := w) (by simp only [execOp, ho, hx, hy]; rw [Sem.run_bind, run_neq_struct w ht kx ky]; rfl) h
end
end
end Go.Sk
