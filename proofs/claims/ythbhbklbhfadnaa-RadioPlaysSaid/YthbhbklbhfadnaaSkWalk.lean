/- The rules of the walk for the operations that touch memory. -/
import Derived.Test.YthbhbklbhfadnaaSkMem
import Derived.Deep.DeepMust
namespace Go.Sk
open Go

section
variable {P : Program} {ops : Array Oper} {rest : List Oper} {o : Oper} {a : Act} {w : World} {Q : Exit → Act → World → Prop}

/-- The walk stands at this operation. -/
theorem wl_at (h : wpList P ops Q (o :: rest) a w) : wpList P ops Q (o :: rest) a w := h
theorem wl_val {v : Value} {w' : World} (hw : Region.wanted o (yielded ops a.tmps) = true) (hr : (execOp a.eval o).run P w = .ok (.value v) w')
    (h : wpList P ops Q rest (a.put o.dst v) w') : wpList P ops Q (o :: rest) a w := by
  unfold wpList
  rw [if_pos hw]
  left
  unfold Oper.wp
  rw [hr]
  exact h
theorem wl_unit {w' : World} (hw : Region.wanted o (yielded ops a.tmps) = true) (hr : (execOp a.eval o).run P w = .ok .skip w')
    (h : wpList P ops Q rest (a.put o.dst undef) w') : wpList P ops Q (o :: rest) a w := by
  unfold wpList
  rw [if_pos hw]
  left
  unfold Oper.wp
  rw [hr]
  exact h
theorem wl_pass (hw : Region.wanted o (yielded ops a.tmps) = false) (h : wpList P ops Q rest (a.put o.dst undef) w) : wpList P ops Q (o :: rest) a w := by
  unfold wpList
  rw [hw]
  exact h

theorem wl_load {t : TypeId} {x : Operand} {b k : Nat} {v : Value} (ho : o.op = .load t x) (hw : Region.wanted o (yielded ops a.tmps) = true) (hx : a.eval x = .pointer (some ⟨b, k, none⟩))
    (ht : scalarB P t = true) (hc : w.cell? ⟨b, k, none⟩ = some v) (h : wpList P ops Q rest (a.put o.dst v) w) : wpList P ops Q (o :: rest) a w :=
  wl_val hw (v := v) (w' := w) (by simp only [execOp, ho, hx, Sem.run_bind, run_load ht hc, Result.andThen_ok, Sem.run_pure]) h
theorem wl_loadS {t : TypeId} {x : Operand} {b k n : Nat} {cs : List Value} (ho : o.op = .load t x) (hw : Region.wanted o (yielded ops a.tmps) = true) (hx : a.eval x = .pointer (some ⟨b, k, none⟩))
    (ht : aggB P t n = true) (hn : cs.length = n) (hc : At w b k cs) (h : wpList P ops Q rest (a.put o.dst (.agg cs.toArray)) w) : wpList P ops Q (o :: rest) a w :=
  wl_val hw (v := .agg cs.toArray) (w' := w) (by simp only [execOp, ho, hx, Sem.run_bind, run_loadS ht hn hc, Result.andThen_ok, Sem.run_pure]) h

theorem wl_store {t : TypeId} {x y : Operand} {b k : Nat} {v : Value} {cs : List Value} {T : TypeId} (ho : o.op = .store t x y) (hw : Region.wanted o (yielded ops a.tmps) = true) (hx : a.eval x = .pointer (some ⟨b, k, none⟩)) (hy : a.eval y = v)
    (ht : sizeB P t 1 = true) (hv : v.oneCell' = true) (hB : Blk w b cs T) (hk : k < cs.length)
    (h : ∀ w', Blk w' b (cs.set k v) T → Mod (only b) w w' → wpList P ops Q rest (a.put o.dst undef) w') : wpList P ops Q (o :: rest) a w :=
  wl_unit hw (w' := w.setRow b (cs.set k v).toArray) (by simp only [execOp, ho, hx, hy, Sem.run_bind, run_store ht hv hB hk, Result.andThen_ok, Sem.run_pure])
    (h _ (setRow_heap w b _ _ T _ hB) (Mod.setRow w b _ rfl))
theorem wl_storeS {t : TypeId} {x y : Operand} {b k n : Nat} {vs cs : List Value} {T : TypeId} (ho : o.op = .store t x y) (hw : Region.wanted o (yielded ops a.tmps) = true) (hx : a.eval x = .pointer (some ⟨b, k, none⟩)) (hy : a.eval y = .agg vs.toArray)
    (ht : sizeB P t n = true) (hn : vs.length = n) (hv : ∀ v ∈ vs, v.oneCell' = true) (hB : Blk w b cs T) (hk : k + n ≤ cs.length)
    (h : ∀ w', Blk w' b (cs.take k ++ vs ++ cs.drop (k + n)) T → Mod (only b) w w' → wpList P ops Q rest (a.put o.dst undef) w') : wpList P ops Q (o :: rest) a w :=
  wl_unit hw (w' := w.setRow b (cs.take k ++ vs ++ cs.drop (k + n)).toArray) (by simp only [execOp, ho, hx, hy, Sem.run_bind, run_storeS ht hn hv hB hk, Result.andThen_ok, Sem.run_pure])
    (h _ (setRow_heap w b _ _ T _ hB) (Mod.setRow w b _ rfl))
/-- The whole block is written. -/
theorem wl_storeW {t : TypeId} {x y : Operand} {b n : Nat} {vs cs : List Value} {T : TypeId} (ho : o.op = .store t x y) (hw : Region.wanted o (yielded ops a.tmps) = true) (hx : a.eval x = .pointer (some ⟨b, 0, none⟩)) (hy : a.eval y = .agg vs.toArray)
    (ht : sizeB P t n = true) (hn : vs.length = n) (hv : ∀ v ∈ vs, v.oneCell' = true) (hB : Blk w b cs T) (hk : cs.length = n)
    (h : ∀ w', Blk w' b vs T → Mod (only b) w w' → wpList P ops Q rest (a.put o.dst undef) w') : wpList P ops Q (o :: rest) a w := by
  refine wl_storeS ho hw hx hy ht hn hv hB (by omega) fun w' hB' hm => h w' ?_ hm
  have : cs.take 0 ++ vs ++ cs.drop (0 + n) = vs := by
    rw [List.drop_of_length_le (by omega)]; simp
  rwa [this] at hB'
theorem wl_alloc {t : TypeId} {z : Value} {zs : List Value} (ho : o.op = .alloc t) (hw : Region.wanted o (yielded ops a.tmps) = true) (hz : (P.info? t).bind (·.zero) = some z) (hs : z.cells = zs.toArray)
    (h : ∀ w' b, w.heap.size ≤ b → Blk w' b zs t → Mod none' w w' → wpList P ops Q rest (a.put o.dst (.pointer (some ⟨b, 0, none⟩))) w') : wpList P ops Q (o :: rest) a w :=
  wl_val hw (v := .pointer (some ⟨w.heap.size, 0, none⟩)) (w' := w.alloc (.cells zs.toArray t)) (by simp only [execOp, ho, Sem.run_bind, run_alloc hz hs, Result.andThen_ok, Sem.run_pure])
    (h _ _ (Nat.le_refl _) (Blk.new w zs t) (Mod.alloc w _))
theorem wl_box {t : TypeId} {x : Operand} {v : Value} {zs : List Value} (ho : o.op = .box t x) (hw : Region.wanted o (yielded ops a.tmps) = true) (hx : a.eval x = v) (hs : v.cells = zs.toArray)
    (h : ∀ w' b, w.heap.size ≤ b → Blk w' b zs t → Mod none' w w' → wpList P ops Q rest (a.put o.dst (.pointer (some ⟨b, 0, none⟩))) w') : wpList P ops Q (o :: rest) a w :=
  wl_val hw (v := .pointer (some ⟨w.heap.size, 0, none⟩)) (w' := w.alloc (.cells zs.toArray t)) (by simp only [execOp, ho, hx, Sem.run_bind, run_box hs, Result.andThen_ok, Sem.run_pure])
    (h _ _ (Nat.le_refl _) (Blk.new w zs t) (Mod.alloc w _))
theorem wl_indexAddr {t e : TypeId} {x y : Operand} {sz b k n c : Nat} {kd : IntKind} {i : Int} (ho : o.op = .indexAddr t x y) (hw : Region.wanted o (yielded ops a.tmps) = true) (hx : a.eval x = .slice (some ⟨b, k, none⟩) n c) (hy : a.eval y = .int kd i)
    (ht : P.underlying t = some (.slice e)) (hsz : sizeB P e sz = true) (h0 : 0 ≤ i) (h1 : i < n)
    (h : wpList P ops Q rest (a.put o.dst (.pointer (some ⟨b, k + i.toNat * sz, none⟩))) w) : wpList P ops Q (o :: rest) a w :=
  wl_val hw (v := .pointer (some ⟨b, k + i.toNat * sz, none⟩)) (w' := w) (by simp only [execOp, ho, hx, hy, Sem.run_bind, run_indexAt ht hsz h0 h1, Result.andThen_ok, Sem.run_pure]) h

theorem wl_append {s x : Operand} {t e : TypeId} {i : TypeInfo} {z : Value} {size bytes : Nat} {v y : Value} {n m : Nat} {xs news : List Value}
    (ho : o.op = .call { callee := .builtin .append, args := #[s, x], argTypes := #[t, t] }) (hw : Region.wanted o (yielded ops a.tmps) = true) (hs : a.eval s = v) (hx : a.eval x = y)
    (ht : P.underlying t = some (.slice e)) (hi : P.info? e = some i) (hz : i.zero = some z) (hsize : i.size = size) (hby : i.bytes = bytes) (hzs : z.cells.size = size) (hsz : 0 < size)
    (hown : Own w e size v n xs) (hsl : Sl w y size m news) (h1 : ∀ u ∈ news, u.oneCell' = true) (h63 : n + m ≤ maxLen) (hbytes : (n + m) * bytes ≤ 140737488355328)
    (h : ∀ v' w', Own w' e size v' (n + m) (xs ++ news) → Mod (fun b => v.ownBlock = some b) w w' → (∀ b, v'.ownBlock = some b → v.ownBlock = some b ∨ w.heap.size ≤ b) → wpList P ops Q rest (a.put o.dst v') w') :
    wpList P ops Q (o :: rest) a w := by
  obtain ⟨v', w', hr, h2, h3, h4⟩ := run_append_sl (P := P) (w := w) 0 t o.type e i z size bytes ht hi hz hsize hby hzs hsz v n xs hown y m news hsl h1 h63 hbytes (Nat.zero_le _)
  refine wl_val hw (v := v') (w' := w') ?_ (h v' w' h2 (Mod.of_grown h3 fun b hb => hb) h4)
  unfold execOp
  simp only [ho, resolve, invoke, builtin, Sem.run_bind, Sem.run_pure, Result.andThen_ok, List.map_toArray, List.map_cons, List.map_nil, hs, hx, hr]

/-- slices: s[:h], s[l:], s[l:h] -/
theorem run_slice_to {t e : TypeId} {sz : Nat} (ht : P.underlying t = some (.slice e)) (hsz : sizeB P e sz = true) {b k n c : Nat} {k1 : IntKind} {hi : Int} (h0 : 0 ≤ hi) (h1 : hi ≤ c) :
    (Instr.sliceAt t (.slice (some ⟨b, k, none⟩) n c) none (some (.int k1 hi)) none).run P w = .ok (.slice (some ⟨b, k, none⟩) hi.toNat c) w := by
  simp only [Instr.sliceAt, Instr.slice, Instr.sliceBounds, Instr.sliceBound, asIntOf, Sem.run_bind, Sem.run_pure, Result.andThen_ok, run_underlying ht, h0, h1, and_self, if_true, run_sizeOf hsz, Nat.sub_zero, Nat.zero_mul]
  split
  · rfl
  · simp [Addr.add]
theorem wl_slice_to {t e : TypeId} {x y : Operand} {sz b k n c : Nat} {kd : IntKind} {i : Int} (ho : o.op = .slice t x none (some y) none) (hw : Region.wanted o (yielded ops a.tmps) = true) (hx : a.eval x = .slice (some ⟨b, k, none⟩) n c) (hy : a.eval y = .int kd i)
    (ht : P.underlying t = some (.slice e)) (hsz : sizeB P e sz = true) (h0 : 0 ≤ i) (h1 : i ≤ c)
    (h : wpList P ops Q rest (a.put o.dst (.slice (some ⟨b, k, none⟩) i.toNat c)) w) : wpList P ops Q (o :: rest) a w :=
  wl_val hw (w' := w) (by simp only [execOp, ho, hx, hy, Option.map_none, Option.map_some, Sem.run_bind, run_slice_to ht hsz h0 h1, Result.andThen_ok, Sem.run_pure]) h
end

/-! ### results -/
theorem res_cellS {P : Program} {w : World} {fn : Func} {p : Tmp} {ty : TypeId} (h : fn.results = #[.cell p ty]) (tmps : Array Value) {b n : Nat} {cs : List Value} (hp : tmps.getD p undef = .pointer (some ⟨b, 0, none⟩))
    (ht : aggB P ty n = true) (hn : cs.length = n) (hc : At w b 0 cs) : (results fn tmps).run P w = .ok (.agg cs.toArray) w := by
  have hl := run_loadS (P := P) (w := w) ht hn hc
  simp only [Instr.loadAt, Instr.sureAddr, Sem.run_bind, Sem.run_pure, Result.andThen_ok] at hl
  have hp' : tmps[p]?.getD undef = .pointer (some ⟨b, 0, none⟩) := by simpa using hp
  simp [results, h, hp', asAddr, hl]
theorem res_cellS_tmp {P : Program} {w : World} {fn : Func} {p t : Tmp} {ty : TypeId} (h : fn.results = #[.cell p ty, .tmp t]) (tmps : Array Value) {b n : Nat} {cs : List Value} (hp : tmps.getD p undef = .pointer (some ⟨b, 0, none⟩))
    (ht : aggB P ty n = true) (hn : cs.length = n) (hc : At w b 0 cs) : (results fn tmps).run P w = .ok (.tuple #[.agg cs.toArray, tmps.getD t undef]) w := by
  have hl := run_loadS (P := P) (w := w) ht hn hc
  simp only [Instr.loadAt, Instr.sureAddr, Sem.run_bind, Sem.run_pure, Result.andThen_ok] at hl
  have hp' : tmps[p]?.getD undef = .pointer (some ⟨b, 0, none⟩) := by simpa using hp
  simp [results, h, hp', asAddr, hl]
end Go.Sk
