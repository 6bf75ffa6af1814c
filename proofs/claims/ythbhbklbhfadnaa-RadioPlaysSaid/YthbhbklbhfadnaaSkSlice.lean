/- Slices of slices, clear, make, copy. -/
import Derived.Test.YthbhbklbhfadnaaSkData
import Derived.Lib.Hide
namespace Go.Sk
open Go

section
variable {P : Program} {w : World}

/-- s[lo:hi] -/
theorem run_slice_at {t e : TypeId} {sz : Nat} (ht : P.underlying t = some (.slice e)) (hsz : sizeB P e sz = true) {ad : Option Addr} {n c : Nat} {lo hi : Option Value} {l h : Nat}
    (hlo : (lo = none ∧ l = 0) ∨ ∃ k i, lo = some (.int k i) ∧ i = (l : Int)) (hhi : (hi = none ∧ h = n) ∨ ∃ k i, hi = some (.int k i) ∧ i = (h : Int)) (h1 : l ≤ h) (h2 : h ≤ c) :
    (Instr.sliceAt t (.slice ad n c) lo hi none).run P w = .ok (.slice (if c = l then ad else ad.map (·.add (l * sz))) (h - l) (c - l)) w := by
  have e1 : ∀ (x : Nat) (code : BoundsCode) (v : Option Value), True := fun _ _ _ => trivial
  rcases hhi with ⟨rfl, rfl⟩ | ⟨k, i, rfl, rfl⟩ <;> rcases hlo with ⟨rfl, rfl⟩ | ⟨k', i', rfl, rfl⟩ <;>
    simp [Instr.sliceAt, Instr.slice, Instr.sliceBounds, Instr.sliceBound, asIntOf, run_underlying ht, run_sizeOf hsz, h1, h2]

/-- s[lo:hi:max], only its bounds. -/
theorem run_slice3 {t e : TypeId} {sz : Nat} (ht : P.underlying t = some (.slice e)) (hsz : sizeB P e sz = true) {ad : Option Addr} {n c : Nat} {k1 k2 k3 : IntKind} {l h m : Nat} (h1 : l ≤ h) (h2 : h ≤ m) (h3 : m ≤ c) :
    (Instr.sliceAt t (.slice ad n c) (some (.int k1 (l : Int))) (some (.int k2 (h : Int))) (some (.int k3 (m : Int)))).run P w = .ok (.slice (if m = l then ad else ad.map (·.add (l * sz))) (h - l) (m - l)) w := by
  simp [Instr.sliceAt, Instr.slice, Instr.sliceBounds, Instr.sliceBound, asIntOf, run_underlying ht, run_sizeOf hsz, h1, h2, h3]

theorem Sl.cut {v : Value} {sz n : Nat} {cs : List Value} (hs : Sl w v sz n cs) {ad : Option Addr} {c : Nat} (hv : v = .slice ad n c) {l h : Nat} (h1 : l ≤ h) (h2 : h ≤ n) :
    Sl w (.slice (if c = l then ad else ad.map (·.add (l * sz))) (h - l) (c - l)) sz (h - l) ((cs.drop (l * sz)).take ((h - l) * sz)) := by
  have hle : h * sz ≤ n * sz := Nat.mul_le_mul_right _ h2
  have hll : l * sz ≤ h * sz := Nat.mul_le_mul_right _ h1
  subst hv
  obtain ⟨h0, ad', c', h3, hc, hat⟩ := hs
  injection h3 with h3 h4 h5
  subst h3 h5
  refine ⟨by rw [List.length_take, List.length_drop, h0, Nat.sub_mul]; omega, _, _, rfl, by omega, ?_⟩
  rcases hat with hn | ⟨b, o, rfl, hat⟩
  · left; omega
  · by_cases hcl : c = l
    · left; omega
    · right
      exact ⟨b, o + l * sz, by simp [hcl, add_at], (hat.drop (l * sz)).take _⟩

variable {ops : Array Oper} {rest : List Oper} {o : Oper} {a : Act} {Q : Exit → Act → World → Prop}

theorem wl_slice {t e : TypeId} {x : Operand} {lo hi : Option Operand} {sz n c l h : Nat} {ad : Option Addr} {cs : List Value}
    (ho : o.op = .slice t x lo hi none) (hw : Region.wanted o (yielded ops a.tmps) = true) (hx : a.eval x = .slice ad n c)
    (hlo : (lo.map a.eval = none ∧ l = 0) ∨ ∃ k i, lo.map a.eval = some (.int k i) ∧ i = (l : Int)) (hhi : (hi.map a.eval = none ∧ h = n) ∨ ∃ k i, hi.map a.eval = some (.int k i) ∧ i = (h : Int))
    (ht : P.underlying t = some (.slice e)) (hsz : sizeB P e sz = true) (hs : Sl w (.slice ad n c) sz n cs) (h1 : l ≤ h) (h2 : h ≤ n)
    (hk : ∀ ad' c', Sl w (.slice ad' (h - l) c') sz (h - l) ((cs.drop (l * sz)).take ((h - l) * sz)) → (∀ b, (Value.slice ad' (h - l) c').ownBlock = some b → (Value.slice ad n c).ownBlock = some b) → wpList P ops Q rest (a.put o.dst (.slice ad' (h - l) c')) w) :
    wpList P ops Q (o :: rest) a w := by
  have hnc : n ≤ c := by
    obtain ⟨_, ad', c', h3, hc, _⟩ := hs
    injection h3 with _ _ h5; omega
  refine wl_val hw (w' := w) (v := .slice (if c = l then ad else ad.map (·.add (l * sz))) (h - l) (c - l)) ?_ (hk _ _ (hs.cut rfl h1 h2) ?_)
  · have hr := run_slice_at (P := P) (w := w) ht hsz (ad := ad) hlo hhi h1 (show h ≤ c by omega)
    simp only [execOp, ho, hx]
    rw [Sem.run_bind]
    show (Sem.run P (Instr.sliceAt t (.slice ad n c) (lo.map a.eval) (hi.map a.eval) none) w).andThen _ = _
    rw [hr]
    rfl
  · intro b hb
    cases ad with
    | none => split at hb <;> cases hb
    | some A =>
      split at hb
      · exact hb
      · simp only [Option.map_some, Value.ownBlock, Option.some.injEq] at hb ⊢
        rw [← hb]
        unfold Addr.add
        split <;> rfl

/-- append where there is room: in its place. -/
theorem wl_append_room {s x : Operand} {t e : TypeId} {size g cap : Nat} {y : Value} {n m : Nat} {cur news : List Value}
    (ho : o.op = .call { callee := .builtin .append, args := #[s, x], argTypes := #[t, t] }) (hw : Region.wanted o (yielded ops a.tmps) = true) (hs : a.eval s = .slice (some ⟨g, 0, none⟩) n cap) (hx : a.eval x = y)
    (ht : P.underlying t = some (.slice e)) (hsz : sizeB P e size = true) (hB : Blk w g cur e) (hcur : cur.length = cap * size) (hsl : Sl w y size m news) (h1 : ∀ u ∈ news, u.oneCell' = true) (hroom : n + m ≤ cap)
    (h : ∀ w', Blk w' g (cur.take (n * size) ++ news ++ cur.drop (n * size + news.length)) e → Mod (only g) w w' → wpList P ops Q rest (a.put o.dst (.slice (some ⟨g, 0, none⟩) (n + m) cap)) w') :
    wpList P ops Q (o :: rest) a w := by
  obtain ⟨i, hi, hsize⟩ : ∃ i, P.info? e = some i ∧ i.size = size := by
    unfold sizeB at hsz
    cases hi : P.info? e with
    | none => rw [hi] at hsz; cases hsz
    | some i => rw [hi] at hsz; exact ⟨i, rfl, by simpa using hsz⟩
  have hle : (n + m) * size ≤ cap * size := Nat.mul_le_mul_right _ hroom
  rw [Nat.add_mul] at hle
  have hrun : (Builtin.append_ #[t, t] o.type #[.slice (some ⟨g, 0, none⟩) n cap, y]).run P w = .ok (.slice (some ⟨g, 0, none⟩) (n + m) cap) (w.setRow g (cur.take (n * size) ++ news ++ cur.drop (n * size + news.length)).toArray) := by
    obtain ⟨hsl1, adx, c, rfl, hmc, hat⟩ := hsl
    have hsl : news.length = m * size ∧ True := ⟨hsl1, trivial⟩
    rcases hat with rfl | ⟨b, of, rfl, hat⟩
    · have hn : news = [] := List.eq_nil_of_length_eq_zero (by simpa using hsl.1)
      subst hn
      have hself : w.setRow g (cur.take (n * size) ++ [] ++ cur.drop (n * size + 0)).toArray = w := by
        simp only [List.append_nil, Nat.add_zero, List.take_append_drop]
        exact setRow_self w g cur.toArray e (0, 0) hB
      simp only [List.length_nil, hself]
      cases adx <;> simp [Builtin.append_, run_underlying ht, run_sizeOf hsz, Builtin.lenOf, show n ≤ cap by omega, Builtin.firstCells, storeCells, loadCells, loadCellsFrom]
    · have hr := run_append_room (P := P) w t o.type e i ht hi g n cap cur.toArray hB ⟨b, of, none⟩ m c news (by rw [hsl.1, hsize]) (fun j u hu => by rw [add_at]; exact hat j u hu) h1 hroom (by rw [hsize, hsl.1]; simp only [List.size_toArray]; omega)
      rw [hsize] at hr
      exact hr
  refine wl_val hw (v := .slice (some ⟨g, 0, none⟩) (n + m) cap) (w' := w.setRow g (cur.take (n * size) ++ news ++ cur.drop (n * size + news.length)).toArray) ?_ (h _ (setRow_heap w g _ _ e _ hB) (Mod.setRow w g _ rfl))
  unfold execOp
  simp only [ho, resolve, invoke, builtin, Sem.run_bind, Sem.run_pure, Result.andThen_ok, List.map_toArray, List.map_cons, List.map_nil, hs, hx, hrun]

/-- clear(s) over a row of the program's own. -/
theorem wl_clear {x : Operand} {t e : TypeId} {z : Value} {zs : List Value} {size g k n c : Nat} {ad : Option Addr} {cur : List Value}
    (ho : o.op = .call { callee := .builtin .clear, args := #[x], argTypes := #[t] }) (hw : Region.wanted o (yielded ops a.tmps) = true) (hx : a.eval x = .slice ad n c)
    (ht : P.underlying t = some (.slice e)) (hz : (P.info? e).bind (·.zero) = some z) (hzs : z.cells = zs.toArray) (hsz : zs.length = size) (hs0 : 0 < size) (h1 : ∀ u ∈ zs, u.oneCell' = true)
    (hB : Blk w g cur e) (had : n = 0 ∨ ad = some ⟨g, k, none⟩) (hk : k + n * size ≤ cur.length)
    (h : ∀ w' ys, ys.length = n * size → Blk w' g (cur.take k ++ ys ++ cur.drop (k + n * size)) e → Mod (only g) w w' → wpList P ops Q rest (a.put o.dst (.tuple #[])) w') :
    wpList P ops Q (o :: rest) a w := by
  by_cases hn : n = 0
  · subst hn
    refine wl_val hw (v := .tuple #[]) (w' := w) ?_ (h w [] (by simp) ?_ (Mod.refl _ _))
    · unfold execOp
      simp only [ho, resolve, invoke, builtin, Sem.run_bind, Sem.run_pure, Result.andThen_ok, List.map_toArray, List.map_cons, List.map_nil, hx]
      cases ad <;> simp [Builtin.clear_, run_underlying ht]
    · simpa using hB
  · have had := had.resolve_left hn
    subst had
    have hlen : (Builtin.zeroCells zs.toArray n).toList.length = n * size := by simp [Builtin.zeroCells, hsz]
    have hone : ∀ u ∈ (Builtin.zeroCells zs.toArray n).toList, u.oneCell' = true := by
      intro u hu
      simp only [Builtin.zeroCells, Array.toList_map, Array.toList_range, List.mem_map, List.mem_range] at hu
      obtain ⟨i, _, rfl⟩ := hu
      have hlt : i % zs.toArray.size < zs.toArray.size := Nat.mod_lt _ (by simp [hsz]; omega)
      rw [getElem!_pos zs.toArray _ hlt]
      exact h1 _ (by simp)
    have hst := run_storeCells_at P g k e (Builtin.zeroCells zs.toArray n).toList 0 cur.toArray w hB (by rw [hlen]; simpa using hk) hone
    simp only [Nat.add_zero, hlen] at hst
    refine wl_val hw (v := .tuple #[]) (w' := w.setRow g (cur.take k ++ (Builtin.zeroCells zs.toArray n).toList ++ cur.drop (k + n * size)).toArray) ?_ (h _ _ hlen (setRow_heap w g _ _ e _ hB) (Mod.setRow w g _ rfl))
    unfold execOp
    simp only [ho, resolve, invoke, builtin, Sem.run_bind, Sem.run_pure, Result.andThen_ok, List.map_toArray, List.map_cons, List.map_nil, hx]
    obtain ⟨m, rfl⟩ : ∃ m, n = m + 1 := ⟨n - 1, by omega⟩
    simp only [Builtin.clear_, List.getElem?_toArray, List.getElem?_cons_zero, Sem.run_bind, run_underlying ht, Result.andThen_ok, run_zero hz, hzs, hst, Sem.run_pure]
/-- copy(dst, src), dst a row of the program's own, all of it or its head. -/
theorem wl_copy {x y : Operand} {t t2 e : TypeId} {size g n c : Nat} {v : Value} {m : Nat} {cur news : List Value}
    (ho : o.op = .call { callee := .builtin .copy, args := #[x, y], argTypes := #[t, t2] }) (hw : Region.wanted o (yielded ops a.tmps) = true) (hx : a.eval x = .slice (some ⟨g, 0, none⟩) n c) (hy : a.eval y = v)
    (ht : P.underlying t = some (.slice e)) (hsz : sizeB P e size = true) (hB : Blk w g cur e) (hcur : n * size ≤ cur.length) (hsl : Sl w v size m news) (h1 : ∀ u ∈ news, u.oneCell' = true) (hmn : m ≤ n)
    (h : ∀ w', Blk w' g (news ++ cur.drop (m * size)) e → Mod (only g) w w' → wpList P ops Q rest (a.put o.dst (.int .i64 m)) w') :
    wpList P ops Q (o :: rest) a w := by
  have hle : m * size ≤ n * size := Nat.mul_le_mul_right _ hmn
  have hmin : Nat.min m n = m := Nat.min_eq_left hmn
  obtain ⟨hsl1, adx, c', rfl, hmc, hat⟩ := hsl
  have hsl : news.length = m * size ∧ True := ⟨hsl1, trivial⟩
  rcases hat with rfl | ⟨b, of, rfl, hat⟩
  · have hn : news = [] := List.eq_nil_of_length_eq_zero (by simpa using hsl.1)
    subst hn
    refine wl_val hw (v := .int .i64 (0 : Nat)) (w' := w) ?_ (h w (by simpa using hB) (Mod.refl _ _))
    unfold execOp
    simp only [ho, resolve, invoke, builtin, Sem.run_bind, Sem.run_pure, Result.andThen_ok, List.map_toArray, List.map_cons, List.map_nil, hx, hy]
    cases adx <;> simp [loadCells, loadCellsFrom, Builtin.copy_, run_underlying ht, run_sizeOf hsz, Builtin.lenOf, Builtin.firstCells, storeCells, goInt]
  · have hl : news.length = m * size := hsl.1
    have hload := run_firstCells_some (P := P) w size m ⟨b, of, none⟩ m c' news hl (fun j u hu => by rw [add_at]; exact hat j u hu)
    have hst := run_storeCells_at P g 0 e news 0 cur.toArray w hB (by rw [hl]; simp only [List.size_toArray]; omega) h1
    simp only [Nat.add_zero, Nat.zero_add, List.take_zero, List.nil_append, hl] at hst
    refine wl_val hw (v := .int .i64 m) (w' := w.setRow g (news ++ cur.drop (m * size)).toArray) ?_ (h _ (setRow_heap w g _ _ e _ hB) (Mod.setRow w g _ rfl))
    unfold execOp
    simp only [ho, resolve, invoke, builtin, Sem.run_bind, Sem.run_pure, Result.andThen_ok, List.map_toArray, List.map_cons, List.map_nil, hx, hy]
    simp only [Builtin.copy_, List.getElem?_toArray, List.getElem?_cons_zero, List.getElem?_cons_succ, Sem.run_bind, run_underlying ht, Result.andThen_ok, run_sizeOf hsz, Builtin.lenOf, Sem.run_pure, hmin, hload, hst, goInt]
/-- make([]T, n) -/
theorem wl_make {t e : TypeId} {x y : Operand} {z : Value} {zs : List Value} {size bytes n : Nat} {k1 k2 : IntKind} {i : TypeInfo} (ho : o.op = .makeSlice t x y) (hw : Region.wanted o (yielded ops a.tmps) = true) (hx : a.eval x = .int k1 (n : Int)) (hy : a.eval y = .int k2 (n : Int))
    (ht : P.underlying t = some (.slice e)) (hi : P.info? e = some i) (hz : i.zero = some z) (hzs : z.cells = zs.toArray) (hsize : i.size = size) (hl : zs.length = size) (hby : i.bytes = bytes) (hs0 : 0 < size) (hn : bytes * n ≤ 281474976710656) (h63 : n ≤ 9223372036854775807)
    (h : ∀ w' b, w.heap.size ≤ b → Blk w' b ((List.range n).flatMap fun _ => zs) e → Mod none' w w' → wpList P ops Q rest (a.put o.dst (.slice (some ⟨b, 0, none⟩) n n)) w') : wpList P ops Q (o :: rest) a w := by
  subst hsize hby
  have hb : (i.bytes : Int) * (n : Int) ≤ 281474976710656 := by
    have : ((i.bytes * n : Nat) : Int) ≤ 281474976710656 := by omega
    rwa [Int.natCast_mul] at this
  have hr := run_make (P := P) w t e i z ht hi hz k1 k2 n n (by omega) (by omega) hb (by omega)
  simp only [Int.toNat_natCast] at hr
  have hm : madeCells z.cells (n * i.size) = ((List.range n).flatMap fun _ => zs).toArray := by
    rw [hzs]
    unfold madeCells
    apply Array.ext'
    simp only [Array.toList_map, Array.toList_range, List.size_toArray, hl]
    have key : ∀ k, (List.range (k * i.size)).map (fun j => zs.toArray[j % i.size]!) = (List.range k).flatMap fun _ => zs := by
      intro k
      induction k with
      | zero => simp
      | succ k ih =>
        rw [Nat.succ_mul, List.range_add, List.map_append, ih, List.range_succ, List.flatMap_append]
        congr 1
        rw [List.map_map]
        simp only [List.flatMap_cons, List.flatMap_nil, List.append_nil]
        apply List.ext_getElem?
        intro j
        rw [List.getElem?_map]
        by_cases hj : j < i.size
        · rw [List.getElem?_range hj]
          simp only [Option.map_some, Function.comp]
          have : (k * i.size + j) % i.size = j := by rw [Nat.add_comm, Nat.add_mul_mod_self_right, Nat.mod_eq_of_lt hj]
          rw [this, getElem!_pos zs.toArray j (by simp [hl, hj])]
          rw [List.getElem?_eq_getElem (by omega)]
          simp
        · rw [List.getElem?_eq_none (by simp; omega), List.getElem?_eq_none (by omega)]
          rfl
    exact key n
  rw [hm] at hr
  refine wl_val hw (v := .slice (some ⟨w.heap.size, 0, none⟩) n n) (w' := w.alloc (.cells ((List.range n).flatMap fun _ => zs).toArray e)) ?_ (h _ _ (Nat.le_refl _) (Blk.new w _ e) (Mod.alloc w _))
  simp only [execOp, ho, hx, hy, Sem.run_bind, hr, Result.andThen_ok, Sem.run_pure]
/-- []T{..}: all parts given, one behind the other. -/
theorem wl_buildSlice {t e : TypeId} {len : Nat} {parts : Array (Nat × Operand)} {cs : List Value} (ho : o.op = .buildSlice t len parts) (hw : Region.wanted o (yielded ops a.tmps) = true)
    (hr : ∀ W : World, (Instr.buildSlice t len (parts.map fun (i, x) => (i, a.eval x))).run P W = .ok (.slice (some ⟨W.heap.size, 0, none⟩) len len) (W.alloc (.cells cs.toArray e)))
    (h : ∀ w' b, w.heap.size ≤ b → Blk w' b cs e → Mod none' w w' → wpList P ops Q rest (a.put o.dst (.slice (some ⟨b, 0, none⟩) len len)) w') : wpList P ops Q (o :: rest) a w := by
  refine wl_val hw (v := .slice (some ⟨w.heap.size, 0, none⟩) len len) (w' := w.alloc (.cells cs.toArray e)) ?_ (h _ _ (Nat.le_refl _) (Blk.new w _ e) (Mod.alloc w _))
  simp only [execOp, ho, Sem.run_bind]
  have := hr w
  simp only [] at this
  rw [this]
  rfl

/-- What is asked of a slice's type t and its elements' type e: their size, their bytes, a zero element's cells. -/
structure SliceTy (P : Program) (t e : TypeId) (sz bytes : Nat) (zs : List Value) : Prop where
  und : P.underlying t = some (.slice e)
  len : zs.length = sz
  ex : ∃ i z, P.info? e = some i ∧ i.zero = some z ∧ z.cells = zs.toArray ∧ i.size = sz ∧ i.bytes = bytes
  pos : 0 < sz
  one : ∀ u ∈ zs, u.oneCell' = true
theorem SliceTy.mk' {t e : TypeId} {z : Value} {zs : List Value} {sz bytes : Nat} (h1 : P.underlying t = some (.slice e)) (h2 : (P.info? e).map (fun i => (i.zero, i.size, i.bytes)) = some (some z, sz, bytes)) (h3 : z.cells = zs.toArray)
    (h4 : (decide (0 < sz) && zs.length == sz && zs.all fun u => u.oneCell') = true) : SliceTy P t e sz bytes zs := by
  cases hi : P.info? e with
  | none => rw [hi] at h2; cases h2
  | some i =>
    rw [hi] at h2
    simp only [Option.map_some, Option.some.injEq, Prod.mk.injEq] at h2
    simp only [Bool.and_eq_true, decide_eq_true_eq, List.all_eq_true, beq_iff_eq] at h4
    exact ⟨h1, h4.1.2, ⟨i, z, hi, h2.1, h3, h2.2.1, h2.2.2⟩, h4.1.1, h4.2⟩
theorem SliceTy.size {t e : TypeId} {zs : List Value} {sz bytes : Nat} (T : SliceTy P t e sz bytes zs) : sizeB P e sz = true := by
  obtain ⟨i, z, hi, _, _, hs, _⟩ := T.ex
  simp [sizeB, hi, hs]

/-! ### things: their cells -/
/-- A thing of a type: the cells that it takes. -/
structure El (α : Type) where
  cells : α → List Value
  sz : Nat
  len : ∀ x, (cells x).length = sz
  one : ∀ x, ∀ v ∈ cells x, v.oneCell' = true
theorem El.flat_one {α : Type} (E : El α) (l : List α) : ∀ v ∈ flat E.cells l, v.oneCell' = true := by
  intro v hv
  obtain ⟨x, _, hx⟩ := List.mem_flatMap.1 hv
  exact E.one x v hx
theorem El.flat_len {α : Type} (E : El α) (l : List α) : (flat E.cells l).length = l.length * E.sz := flat_length E.cells E.sz E.len l
def elInt : El Int := ⟨fun n => [.int .i64 n], 1, fun _ => rfl, fun _ v hv => by simp at hv; subst hv; rfl⟩
def elBool : El Bool := ⟨fun n => [.bool n], 1, fun _ => rfl, fun _ v hv => by simp at hv; subst hv; rfl⟩
def elCell : El Cell := ⟨Cell.cells, 2, fun _ => rfl, fun x => ofKinds_one _ _ x.ks⟩
def elPose : El Pose := ⟨Pose.cells, 3, fun _ => rfl, fun x => ofKinds_one _ _ x.ks⟩
def elMove : El Move := ⟨Move.cells, 11, fun _ => rfl, fun x => ofKinds_one _ _ x.ks⟩
def elTele : El Tele := ⟨Tele.cells, 19, fun _ => rfl, fun x => ofKinds_one _ _ x.ks⟩

/-- The slice v reads as the list l. -/
def Rd {α : Type} (w : World) (E : El α) (v : Value) (l : List α) : Prop := Sl w v E.sz l.length (flat E.cells l)
/-- .. and is the program's own. -/
def Ow {α : Type} (w : World) (e : TypeId) (E : El α) (v : Value) (l : List α) : Prop := Own w e E.sz v l.length (flat E.cells l)
section typed
variable {α : Type} {E : El α} {w w' : World} {v : Value} {l : List α} {e : TypeId} {F : Nat → Prop}
theorem Ow.rd (h : Ow w e E v l) : Rd w E v l := h.sl
theorem Rd.mod (h : Rd w E v l) (m : Mod F w w') (hb : ∀ b, v.ownBlock = some b → ¬ F b) : Rd w' E v l := Sl.mod h m hb
theorem Ow.mod (h : Ow w e E v l) (m : Mod F w w') (hb : ∀ b, v.ownBlock = some b → ¬ F b) : Ow w' e E v l := Own.mod h m hb
theorem Rd.vee (h : Rd w E v l) : ∃ ad c, v = .slice ad l.length c := h.len
theorem Ow.vee (h : Ow w e E v l) : ∃ ad c, v = .slice ad l.length c := h.rd.vee
theorem Rd.nil (w : World) (E : El α) : Rd w E (.slice none 0 0) [] := Sl.nil w E.sz
theorem Ow.nil (w : World) (e : TypeId) (E : El α) : Ow w e E (.slice none 0 0) [] := Own.nil w e E.sz
theorem Ow.lt (h : Ow w e E v l) : ∀ b, v.ownBlock = some b → b < w.heap.size := Own.lt h
theorem Rd.lt (h : Rd w E v l) (hz : 0 < E.sz) (hl : l ≠ []) : ∀ b, v.ownBlock = some b → b < w.heap.size := by
  intro b hb
  obtain ⟨_, ad, c, rfl, _, h3⟩ := h
  rcases h3 with h0 | ⟨b', o, rfl, hat⟩
  · exact absurd (List.eq_nil_of_length_eq_zero h0) hl
  · simp only [Value.ownBlock, Option.some.injEq] at hb
    subst hb
    refine hat.lt ?_
    intro h0
    have := E.flat_len l
    rw [h0] at this
    simp only [List.length_nil] at this
    have : 0 < l.length := List.length_pos_iff.2 hl
    have := Nat.mul_pos this hz
    omega
/-- An element's own cells. -/
theorem Rd.elem {ad : Option Addr} {n c : Nat} (h : Rd w E (.slice ad n c) l) {i : Nat} {x : α} (hi : l[i]? = some x) : ∃ b o, ad = some ⟨b, o, none⟩ ∧ At w b (o + i * E.sz) (E.cells x) := by
  have hlt : i < l.length := (List.getElem?_eq_some_iff.1 hi).1
  obtain ⟨_, ad', c', h3, _, h4⟩ := h
  rcases h4 with h0 | ⟨b, o, h0, hat⟩
  · omega
  · injection h3 with h3 _ _
    exact ⟨b, o, h3.trans h0, hat.elem E.len hi⟩
theorem Blk.rd {b n : Nat} {T : TypeId} (h : Blk w b (flat E.cells l) T) (hn : n = l.length) : Rd w E (.slice (some ⟨b, 0, none⟩) n n) l := by
  subst hn
  exact ⟨E.flat_len l, _, _, rfl, Nat.le_refl _, .inr ⟨b, 0, rfl, h.at0⟩⟩
theorem Blk.ow {b n : Nat} {T : TypeId} (h : Blk w b (flat E.cells l) T) (hn : n = l.length) (hm : n ≤ maxLen) : Ow w T E (.slice (some ⟨b, 0, none⟩) n n) l := by
  subst hn
  exact Own.of_blk h (E.flat_len l) hm
theorem Rd.n {ad : Option Addr} {n c : Nat} (h : Rd w E (.slice ad n c) l) : n = l.length := Sl.inj h
end typed

theorem wl_sub {α : Type} {E : El α} {t e : TypeId} {x : Operand} {lo hi : Option Operand} {l h k : Nat} {ad : Option Addr} {n c : Nat} {xs : List α}
    (ho : o.op = .slice t x lo hi none) (hw : Region.wanted o (yielded ops a.tmps) = true) (hx : a.eval x = .slice ad n c)
    (hlo : (lo.map a.eval = none ∧ l = 0) ∨ ∃ k i, lo.map a.eval = some (.int k i) ∧ i = (l : Int)) (hhi : (hi.map a.eval = none ∧ h = n) ∨ ∃ k i, hi.map a.eval = some (.int k i) ∧ i = (h : Int))
    (ht : P.underlying t = some (.slice e)) (hsz : sizeB P e E.sz = true) (hs : Rd w E (.slice ad n c) xs) (hk : l + k = h) (h2 : h ≤ xs.length)
    (hq : ∀ ad' c', Rd w E (.slice ad' k c') ((xs.drop l).take k) → (∀ b, (Value.slice ad' k c').ownBlock = some b → (Value.slice ad n c).ownBlock = some b) → wpList P ops Q rest (a.put o.dst (.slice ad' k c')) w) :
    wpList P ops Q (o :: rest) a w := by
  have hn := hs.n
  subst hn
  have hk' : h - l = k := by omega
  refine wl_slice (l := l) (h := h) ho hw hx hlo hhi ht hsz hs (by omega) h2 fun ad' c' h1 h3 => ?_
  rw [hk'] at h1 h3 ⊢
  refine hq ad' c' ?_ h3
  unfold Rd
  have hl : ((xs.drop l).take k).length = k := by rw [List.length_take, List.length_drop]; omega
  rw [hl, flat_take E.cells E.sz E.len, flat_drop E.cells E.sz E.len]
  exact h1

theorem wl_app {α : Type} {E : El α} {s x : Operand} {t e : TypeId} {zs : List Value} {bytes : Nat} {v y : Value} {xs ys : List α} (T : SliceTy P t e E.sz bytes zs) (hown : Ow w e E v xs) (hsl : Rd w E y ys)
    (ho : o.op = .call { callee := .builtin .append, args := #[s, x], argTypes := #[t, t] }) (hw : Region.wanted o (yielded ops a.tmps) = true) (hs : a.eval s = v) (hx : a.eval x = y) (hm : xs.length + ys.length ≤ maxLen) (hb : (xs.length + ys.length) * bytes ≤ 140737488355328)
    (h : ∀ ad N c w', Ow w' e E (.slice ad N c) (xs ++ ys) → Mod (fun b => v.ownBlock = some b) w w' → (∀ b, (Value.slice ad N c).ownBlock = some b → v.ownBlock = some b ∨ w.heap.size ≤ b) →
      wpList P ops Q rest (a.put o.dst (.slice ad N c)) w') : wpList P ops Q (o :: rest) a w := by
  obtain ⟨i, z, hi, hz, hzs, hsize, hby⟩ := T.ex
  refine wl_append (size := E.sz) (bytes := bytes) ho hw hs hx T.und hi hz hsize hby (by rw [hzs]; simp [T.len]) T.pos hown hsl (E.flat_one ys) hm hb fun v' w' h1 h2 h3 => ?_
  rw [← flat_append, ← List.length_append] at h1
  obtain ⟨ad, c, rfl⟩ := h1.sl.len
  exact h ad _ c w' h1 h2 h3
/-- append in place: the slice's head, then what is read. -/
theorem wl_appR {α : Type} {E : El α} {s x : Operand} {t e : TypeId} {zs : List Value} {bytes g k cap : Nat} {y : Value} {cur : List Value} {ys : List α} (T : SliceTy P t e E.sz bytes zs) (hB : Blk w g cur e) (hcur : cur.length = cap * E.sz) (hsl : Rd w E y ys)
    (ho : o.op = .call { callee := .builtin .append, args := #[s, x], argTypes := #[t, t] }) (hw : Region.wanted o (yielded ops a.tmps) = true) (hs : a.eval s = .slice (some ⟨g, 0, none⟩) k cap) (hx : a.eval x = y)
    (hroom : k + ys.length ≤ cap)
    (h : ∀ w', Blk w' g (cur.take (k * E.sz) ++ flat E.cells ys ++ cur.drop ((k + ys.length) * E.sz)) e → Mod (only g) w w' → wpList P ops Q rest (a.put o.dst (.slice (some ⟨g, 0, none⟩) (k + ys.length) cap)) w') : wpList P ops Q (o :: rest) a w :=
  wl_append_room ho hw hs hx T.und T.size hB hcur hsl (E.flat_one ys) hroom fun w' h1 h2 => h w' (by rw [E.flat_len, ← Nat.add_mul] at h1; exact h1) h2
theorem wl_clr {x : Operand} {t e : TypeId} {zs : List Value} {sz bytes g k n c : Nat} {ad : Option Addr} {cur : List Value} (T : SliceTy P t e sz bytes zs)
    (ho : o.op = .call { callee := .builtin .clear, args := #[x], argTypes := #[t] }) (hw : Region.wanted o (yielded ops a.tmps) = true) (hx : a.eval x = .slice ad n c)
    (hB : Blk w g cur e) (had : n = 0 ∨ ad = some ⟨g, k, none⟩) (hk : k + n * sz ≤ cur.length)
    (h : ∀ w' ys, ys.length = n * sz → Blk w' g (cur.take k ++ ys ++ cur.drop (k + n * sz)) e → Mod (only g) w w' → wpList P ops Q rest (a.put o.dst (.tuple #[])) w') :
    wpList P ops Q (o :: rest) a w := by
  obtain ⟨i, z, hi, hz, hzs, hsize, hby⟩ := T.ex
  exact wl_clear ho hw hx T.und (by rw [hi]; exact hz) hzs T.len T.pos T.one hB had hk h
theorem wl_mk {t e : TypeId} {x y : Operand} {zs : List Value} {sz bytes n : Nat} {k1 k2 : IntKind} (T : SliceTy P t e sz bytes zs) (ho : o.op = .makeSlice t x y) (hw : Region.wanted o (yielded ops a.tmps) = true) (hx : a.eval x = .int k1 (n : Int)) (hy : a.eval y = .int k2 (n : Int))
    (hn : bytes * n ≤ 281474976710656) (h63 : n ≤ 9223372036854775807)
    (h : ∀ w' b, w.heap.size ≤ b → Blk w' b ((List.range n).flatMap fun _ => zs) e → Mod none' w w' → wpList P ops Q rest (a.put o.dst (.slice (some ⟨b, 0, none⟩) n n)) w') : wpList P ops Q (o :: rest) a w := by
  obtain ⟨i, z, hi, hz, hzs, hsize, hby⟩ := T.ex
  exact wl_make ho hw hx hy T.und hi hz hzs hsize T.len hby T.pos hn h63 h
/-- xs[i] of a slice that reads as a list: its address. -/
theorem wl_ix {α : Type} {E : El α} {t e : TypeId} {x y : Operand} {n c i : Nat} {ad : Option Addr} {kd : IntKind} {xs : List α} {u : α} (ho : o.op = .indexAddr t x y) (hw : Region.wanted o (yielded ops a.tmps) = true) (hx : a.eval x = .slice ad n c) (hy : a.eval y = .int kd (i : Int))
    (ht : P.underlying t = some (.slice e)) (hsz : sizeB P e E.sz = true) (hs : Rd w E (.slice ad n c) xs) (hu : xs[i]? = some u)
    (h : ∀ b k, At w b k (E.cells u) → (Value.slice ad n c).ownBlock = some b → wpList P ops Q rest (a.put o.dst (.pointer (some ⟨b, k, none⟩))) w) : wpList P ops Q (o :: rest) a w := by
  obtain ⟨b, k, rfl, hat⟩ := hs.elem hu
  have hlt : i < xs.length := (List.getElem?_eq_some_iff.1 hu).1
  refine wl_indexAddr (b := b) (k := k) ho hw hx hy ht hsz (Int.natCast_nonneg i) (by rw [hs.n]; omega) ?_
  rw [Int.toNat_natCast]
  exact h b _ hat rfl
/-- s[lo:hi], its very value. -/
theorem wl_subX {t e : TypeId} {x : Operand} {lo hi : Option Operand} {l h k n c b of sz : Nat}
    (ho : o.op = .slice t x lo hi none) (hw : Region.wanted o (yielded ops a.tmps) = true) (hx : a.eval x = .slice (some ⟨b, of, none⟩) n c)
    (hlo : (lo.map a.eval = none ∧ l = 0) ∨ ∃ k i, lo.map a.eval = some (.int k i) ∧ i = (l : Int)) (hhi : (hi.map a.eval = none ∧ h = n) ∨ ∃ k i, hi.map a.eval = some (.int k i) ∧ i = (h : Int))
    (ht : P.underlying t = some (.slice e)) (hsz : sizeB P e sz = true) (hk : l + k = h) (h2 : h ≤ c) (h3 : l < c ∨ l = 0)
    (hq : wpList P ops Q rest (a.put o.dst (.slice (some ⟨b, of + l * sz, none⟩) k (c - l))) w) : wpList P ops Q (o :: rest) a w := by
  have hk' : h - l = k := by omega
  have hr := run_slice_at (P := P) (w := w) ht hsz (ad := some ⟨b, of, none⟩) hlo hhi (show l ≤ h by omega) (show h ≤ c by omega)
  have he : (if c = l then some (⟨b, of, none⟩ : Addr) else (some (⟨b, of, none⟩ : Addr)).map (·.add (l * sz))) = some ⟨b, of + l * sz, none⟩ := by
    rcases h3 with h3 | h3
    · rw [if_neg (by omega)]; simp [add_at]
    · subst h3
      split <;> simp [add_at]
  rw [he, hk'] at hr
  refine wl_val hw (w' := w) (v := .slice (some ⟨b, of + l * sz, none⟩) k (c - l)) ?_ hq
  simp only [execOp, ho, hx]
  rw [Sem.run_bind]
  show (Sem.run P (Instr.sliceAt t (.slice (some ⟨b, of, none⟩) n c) (lo.map a.eval) (hi.map a.eval) none) w).andThen _ = _
  rw [hr]
  rfl
theorem sizeB_of {t e : TypeId} {zs : List Value} {sz bytes : Nat} (T : SliceTy P t e sz bytes zs) : sizeB P e sz = true := T.size
end
end Go.Sk
