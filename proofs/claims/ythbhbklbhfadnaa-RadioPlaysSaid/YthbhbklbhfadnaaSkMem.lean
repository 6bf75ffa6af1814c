/- What a step does to memory, told by blocks: which blocks turned, what a block holds, what a slice reads; and the rules of the walk for loads, stores, new variables, appends. -/
import Derived.Test.YthbhbklbhfadnaaSkStable
import Derived.Deep.Draws
import Derived.WalkKit
import Derived.KernelRfl
namespace Go.Sk
open Go

/-- Only blocks of F, and new ones, have turned. -/
structure Mod (F : Nat → Prop) (w w' : World) : Prop where
  os : w'.os = w.os
  tape : w'.tape = w.tape
  output : w'.output = w.output
  size : w.heap.size ≤ w'.heap.size
  block : ∀ k, k < w.heap.size → ¬ F k → w'.heap[k]? = w.heap[k]?

/-- No block. -/
def none' : Nat → Prop := fun _ => False
/-- One block. -/
def only (b : Nat) : Nat → Prop := fun k => k = b
/-- F, and what has come since. -/
def grow (F : Nat → Prop) (w w' : World) : Nat → Prop := fun k => F k ∨ (w.heap.size ≤ k ∧ k < w'.heap.size)

namespace Mod
variable {F G : Nat → Prop} {w w1 w2 : World}
theorem refl (F : Nat → Prop) (w : World) : Mod F w w := ⟨rfl, rfl, rfl, Nat.le_refl _, fun _ _ _ => rfl⟩
theorem trans' (h : Mod F w w1) (k : Mod G w1 w2) (hG : ∀ b, b < w.heap.size → G b → F b) : Mod F w w2 :=
  ⟨k.os.trans h.os, k.tape.trans h.tape, k.output.trans h.output, Nat.le_trans h.size k.size,
   fun b hb hF => (k.block b (Nat.lt_of_lt_of_le hb h.size) (fun hg => hF (hG b hb hg))).trans (h.block b hb hF)⟩
theorem trans (h : Mod F w w1) (k : Mod F w1 w2) : Mod F w w2 := h.trans' k fun _ _ h => h
theorem mono (h : Mod F w w1) (hF : ∀ b, F b → G b) : Mod G w w1 := ⟨h.os, h.tape, h.output, h.size, fun b hb hG => h.block b hb (fun hf => hG (hF b hf))⟩
/-- What is new does not count. -/
theorem drop (h : Mod F w w1) (k : Mod G w1 w2) (hG : ∀ b, G b → F b ∨ w.heap.size ≤ b) : Mod F w w2 :=
  h.trans' k fun b hb hg => (hG b hg).resolve_right (by omega)
theorem drew (w : World) : Mod F w w.drew := ⟨rfl, rfl, rfl, Nat.le_refl _, fun _ _ _ => rfl⟩
theorem drewN (w : World) (n : Nat) : Mod F w (w.drewN n) := ⟨rfl, rfl, rfl, Nat.le_refl _, fun _ _ _ => rfl⟩
theorem alloc (w : World) (o : Obj) : Mod F w (w.alloc o) := ⟨rfl, rfl, rfl, by simp, fun k hk _ => RowKit.Below.heap_alloc w o k hk⟩
theorem of_grown {row : Option Nat} (h : w.grownBy w1 row) (hr : ∀ b, row = some b → F b) : Mod F w w1 :=
  ⟨h.os, h.tape, h.output, h.size, fun k hk hF => h.block k hk fun e => hF (hr k e.symm)⟩
theorem below (h : Mod F w w1) (B : Nat) (hB : B ≤ w.heap.size) (hF : ∀ b, F b → B ≤ b) : RowKit.Below B w w1 :=
  ⟨h.os, h.tape, h.output, h.size, fun k hk => h.block k (by omega) fun hf => by have := hF k hf; omega⟩
theorem setRow (w : World) (g : Nat) (cs : Array Value) (hg : F g) : Mod F w (w.setRow g cs) :=
  ⟨rfl, rfl, rfl, by simp, fun k _ hF => setRow_other w g k cs fun e => hF (e ▸ hg)⟩
end Mod

/-- Block b holds the cells cs, and may be written. -/
def Blk (w : World) (b : Nat) (cs : List Value) (T : TypeId) : Prop := w.heap[b]? = some (.cells cs.toArray T (0, 0))
/-- From its cell o on, block b holds the cells cs. -/
def At (w : World) (b o : Nat) (cs : List Value) : Prop := ∀ j u, cs[j]? = some u → w.cell? ⟨b, o + j, none⟩ = some u

section
variable {F : Nat → Prop} {w w' : World} {b o : Nat} {cs ds : List Value} {T : TypeId}
theorem Blk.lt (h : Blk w b cs T) : b < w.heap.size := (Array.getElem?_eq_some_iff.1 h).1
theorem Blk.mod (h : Blk w b cs T) (m : Mod F w w') (hb : ¬ F b) : Blk w' b cs T := (m.block b h.lt hb).trans h
theorem Blk.cell (h : Blk w b cs T) (k : Nat) : w.cell? ⟨b, k, none⟩ = cs[k]? := by simp [World.cell?, show w.heap[b]? = _ from h]
theorem Blk.free (h : Blk w b cs T) (k : Nat) : w.frozen? ⟨b, k, none⟩ = false := by simp [World.frozen?, show w.heap[b]? = _ from h]
theorem Blk.at (h : Blk w b cs T) (hd : ∀ j u, ds[j]? = some u → cs[o + j]? = some u) : At w b o ds := fun j u hu => (h.cell _).trans (hd j u hu)
theorem Blk.at0 (h : Blk w b cs T) : At w b 0 cs := h.at fun j u hu => by rw [Nat.zero_add]; exact hu
theorem Blk.new (w : World) (cs : List Value) (T : TypeId) : Blk (w.alloc (.cells cs.toArray T)) w.heap.size cs T := heap_alloc_new w _
theorem Blk.ne (h : Blk w b cs T) {b' : Nat} {cs' : List Value} {T' : TypeId} (h' : Blk w b' cs' T') (hT : T ≠ T') : b ≠ b' := by
  rintro rfl
  have := (show w.heap[b]? = _ from h).symm.trans h'
  injection this with this; injection this with _ this; exact hT this
theorem At.lt (h : At w b o cs) (hc : cs ≠ []) : b < w.heap.size := by
  obtain ⟨x, xs, rfl⟩ := List.exists_cons_of_ne_nil hc
  exact World.block_lt_of_cell? w ⟨b, o + 0, none⟩ (h 0 x rfl)
theorem At.mod (h : At w b o cs) (m : Mod F w w') (hb : ¬ F b) : At w' b o cs := fun j u hu => by
  have h1 := h j u hu
  have hlt : b < w.heap.size := World.block_lt_of_cell? w _ h1
  rw [World.cell?_of_block (a := ⟨b, o + j, none⟩) (m.block b hlt hb)]
  exact h1
theorem At.cell (h : At w b o cs) {j : Nat} {u : Value} (hu : cs[j]? = some u) : w.cell? ⟨b, o + j, none⟩ = some u := h j u hu
theorem At.part (h : At w b o cs) (k : Nat) (hd : ∀ j u, ds[j]? = some u → cs[k + j]? = some u) : At w b (o + k) ds := fun j u hu => by
  have := h (k + j) u (hd j u hu); rwa [← Nat.add_assoc] at this
theorem At.drewN (h : At w b o cs) (n : Nat) : At (w.drewN n) b o cs := h
theorem At.nil (w : World) (b o : Nat) : At w b o [] := fun _ _ h => by simp at h
theorem At.take (h : At w b o cs) (n : Nat) : At w b o (cs.take n) := fun j u hu => h j u (by
  rw [List.getElem?_take] at hu
  split at hu
  · exact hu
  · cases hu)
theorem At.drop (h : At w b o cs) (n : Nat) : At w b (o + n) (cs.drop n) := h.part n fun j u hu => by rwa [List.getElem?_drop] at hu
end

/-- The slice v reads as n elements of sz cells: the cells cs. -/
def Sl (w : World) (v : Value) (sz n : Nat) (cs : List Value) : Prop :=
  cs.length = n * sz ∧ ∃ ad c, v = .slice ad n c ∧ n ≤ c ∧ (n = 0 ∨ ∃ b o, ad = some ⟨b, o, none⟩ ∧ At w b o cs)

theorem Sl.mod {F : Nat → Prop} {w w' : World} {v : Value} {sz n : Nat} {cs : List Value} (h : Sl w v sz n cs) (m : Mod F w w') (hb : ∀ b, v.ownBlock = some b → ¬ F b) : Sl w' v sz n cs := by
  obtain ⟨h1, ad, c, rfl, h2, h3⟩ := h
  refine ⟨h1, ad, c, rfl, h2, ?_⟩
  rcases h3 with h0 | ⟨b, o, rfl, hc⟩
  · exact .inl h0
  · exact .inr ⟨b, o, rfl, hc.mod m (hb b rfl)⟩
theorem Sl.nil (w : World) (sz : Nat) : Sl w (.slice none 0 0) sz 0 [] := ⟨by simp, none, 0, rfl, Nat.le_refl _, .inl rfl⟩
theorem Sl.len {w : World} {v : Value} {sz n : Nat} {cs : List Value} (h : Sl w v sz n cs) : ∃ ad c, v = .slice ad n c := by
  obtain ⟨_, ad, c, rfl, _⟩ := h
  exact ⟨_, _, rfl⟩
theorem Sl.inj {w : World} {ad : Option Addr} {k c : Nat} {sz n : Nat} {cs : List Value} (h : Sl w (.slice ad k c) sz n cs) : k = n := by
  obtain ⟨_, _, e⟩ := h.len; injection e

/-- A slice of the program's own making: it begins at a block's head and holds that block alone. -/
abbrev Own (w : World) (e : TypeId) (sz : Nat) (v : Value) (n : Nat) (xs : List Value) : Prop := w.ownsRow 0 e sz v n xs
theorem Own.sl {w : World} {e : TypeId} {sz n : Nat} {v : Value} {xs : List Value} (h : Own w e sz v n xs) : Sl w v sz n xs := by
  refine ⟨h.1, ?_⟩
  rcases h.2 with ⟨h0, h1⟩ | ⟨g, cap, cur, rfl, _, hg, hn, _, _, htake⟩
  · subst h1; exact ⟨none, 0, h0, Nat.le_refl _, .inl rfl⟩
  · refine ⟨_, cap, rfl, hn, .inr ⟨g, 0, rfl, fun j u hu => ?_⟩⟩
    rw [Nat.zero_add, cell_of_row w g j cur e (0, 0) hg, ← Array.getElem?_toList]
    rw [← htake, List.getElem?_take] at hu
    split at hu
    · exact hu
    · cases hu
theorem Own.mod {F : Nat → Prop} {w w' : World} {e : TypeId} {sz n : Nat} {v : Value} {xs : List Value} (h : Own w e sz v n xs) (m : Mod F w w') (hb : ∀ b, v.ownBlock = some b → ¬ F b) : Own w' e sz v n xs := by
  refine ⟨h.1, ?_⟩
  rcases h.2 with h0 | ⟨g, cap, cur, rfl, hb0, hg, rest⟩
  · exact .inl h0
  · exact .inr ⟨g, cap, cur, rfl, hb0, (m.block g (Array.getElem?_eq_some_iff.1 hg).1 (hb g rfl)).trans hg, rest⟩
theorem Own.nil (w : World) (e : TypeId) (sz : Nat) : Own w e sz (.slice none 0 0) 0 [] := World.ownsRow_nil w 0 e sz
theorem Own.lt {w : World} {e : TypeId} {sz n : Nat} {v : Value} {xs : List Value} (h : Own w e sz v n xs) : ∀ b, v.ownBlock = some b → b < w.heap.size := fun b hb => (World.ownsRow.lt h b hb).2
theorem Own.of_blk {w : World} {e : TypeId} {sz n g : Nat} {xs : List Value} (h : Blk w g xs e) (hl : xs.length = n * sz) (hm : n ≤ maxLen) : Own w e sz (.slice (some ⟨g, 0, none⟩) n n) n xs :=
  ⟨hl, .inr ⟨g, n, xs.toArray, rfl, Nat.zero_le _, h, Nat.le_refl _, hm, by simpa using hl, by simp [← hl]⟩⟩

/-! ### runs -/
section
variable {P : Program} {w : World}

def scalarB (P : Program) (t : TypeId) : Bool := match P.underlying t with | some (.struct _) => false | some (.array ..) => false | some _ => true | none => false
def aggB (P : Program) (t : TypeId) (n : Nat) : Bool := (match P.underlying t with | some (.struct _) => true | some (.array ..) => true | _ => false) && (P.info? t).map (·.size) == some n
def sizeB (P : Program) (t : TypeId) (n : Nat) : Bool := (P.info? t).map (·.size) == some n

theorem run_isAgg_no {t : TypeId} (h : scalarB P t = true) : (isAgg t).run P w = .ok false w := by
  unfold scalarB at h
  cases hu : P.underlying t with
  | none => rw [hu] at h; cases h
  | some d =>
    rw [hu] at h
    unfold isAgg
    rw [Sem.run_bind, run_underlying hu w]
    cases d <;> first | (cases h; done) | rfl
theorem run_isAgg_yes {t : TypeId} {n : Nat} (h : aggB P t n = true) : (isAgg t).run P w = .ok true w ∧ (sizeOf t).run P w = .ok n w := by
  unfold aggB at h
  rw [Bool.and_eq_true] at h
  constructor
  · cases hu : P.underlying t with
    | none => rw [hu] at h; cases h.1
    | some d =>
      rw [hu] at h
      unfold isAgg
      rw [Sem.run_bind, run_underlying hu w]
      cases d <;> first | (cases h.1; done) | rfl
  · cases hi : P.info? t with
    | none => rw [hi] at h; cases h.2
    | some i =>
      rw [hi] at h
      have : i.size = n := by simpa using h.2
      simp [sizeOf, typeInfo, hi, this]
theorem run_sizeOf {t : TypeId} {n : Nat} (h : sizeB P t n = true) : (sizeOf t).run P w = .ok n w := by
  unfold sizeB at h
  cases hi : P.info? t with
  | none => rw [hi] at h; cases h
  | some i =>
    rw [hi] at h
    have : i.size = n := by simpa using h
    simp [sizeOf, typeInfo, hi, this]

theorem add_at (b o n : Nat) : (⟨b, o, none⟩ : Addr).add n = ⟨b, o + n, none⟩ := Addr.add_lit b o n

theorem run_load {t : TypeId} {b k : Nat} {v : Value} (ht : scalarB P t = true) (hc : w.cell? ⟨b, k, none⟩ = some v) : (Instr.loadAt t (.pointer (some ⟨b, k, none⟩))).run P w = .ok v w := by
  simp only [Instr.loadAt, Instr.sureAddr, loadVar, Sem.run_bind, Sem.run_pure, Result.andThen_ok, run_isAgg_no ht]
  simp [load, Sem.run, hc]
theorem run_loadS {t : TypeId} {b k n : Nat} {cs : List Value} (ht : aggB P t n = true) (hn : cs.length = n) (hc : At w b k cs) : (Instr.loadAt t (.pointer (some ⟨b, k, none⟩))).run P w = .ok (.agg cs.toArray) w := by
  obtain ⟨h1, h2⟩ := run_isAgg_yes (w := w) ht
  have hl := run_loadCells_list (P := P) w ⟨b, k, none⟩ cs (fun j v hv => by rw [add_at]; exact hc j v hv)
  rw [hn] at hl
  simp only [Instr.loadAt, Instr.sureAddr, loadVar, Sem.run_bind, Sem.run_pure, Result.andThen_ok, h1, if_true, h2, hl]
theorem run_store {t : TypeId} {b k : Nat} {v : Value} {cs : List Value} {T : TypeId} (ht : sizeB P t 1 = true) (hv : v.oneCell' = true) (hB : Blk w b cs T) (hk : k < cs.length) :
    (Instr.storeAt t (.pointer (some ⟨b, k, none⟩)) v).run P w = .ok () (w.setRow b (cs.set k v).toArray) := by
  have hcells : v.cells = #[v] := by cases v <;> first | rfl | (cases hv)
  have hs := run_storeCells_at P b k T [v] 0 cs.toArray w hB (by simp only [Nat.add_zero, List.length_singleton, List.size_toArray]; omega) (by simpa using hv)
  have he : (cs.toArray.toList.take (k + 0) ++ [v] ++ cs.toArray.toList.drop (k + 0 + [v].length)) = cs.set k v := by
    simp only [Nat.add_zero, List.length_singleton]
    rw [List.set_eq_take_append_cons_drop, if_pos hk]
    simp
  rw [he] at hs
  simp only [Instr.storeAt, Instr.sureAddr, storeVar, Sem.run_bind, Sem.run_pure, Result.andThen_ok, run_sizeOf ht, hcells]
  simp only [List.size_toArray, List.length_singleton, ne_eq, not_true_eq_false, if_false]
  exact hs
theorem run_storeS {t : TypeId} {b k n : Nat} {vs cs : List Value} {T : TypeId} (ht : sizeB P t n = true) (hn : vs.length = n) (h1 : ∀ v ∈ vs, v.oneCell' = true) (hB : Blk w b cs T) (hk : k + n ≤ cs.length) :
    (Instr.storeAt t (.pointer (some ⟨b, k, none⟩)) (.agg vs.toArray)).run P w = .ok () (w.setRow b (cs.take k ++ vs ++ cs.drop (k + n)).toArray) := by
  have hs := run_storeCells_at P b k T vs 0 cs.toArray w hB (by simpa [hn] using hk) h1
  simp only [Nat.add_zero, hn] at hs
  simp only [Instr.storeAt, Instr.sureAddr, storeVar, Sem.run_bind, Sem.run_pure, Result.andThen_ok, run_sizeOf ht, Value.cells]
  simp only [List.size_toArray, hn, ne_eq, not_true_eq_false, if_false]
  exact hs
theorem run_zero {t : TypeId} {z : Value} (hz : (P.info? t).bind (·.zero) = some z) : (zeroValue t).run P w = .ok z w := by
  cases hi : P.info? t with
  | none => rw [hi] at hz; cases hz
  | some i => rw [hi] at hz; simp [zeroValue, typeInfo, hi, show i.zero = some z from hz]
theorem run_alloc {t : TypeId} {z : Value} {zs : List Value} (hz : (P.info? t).bind (·.zero) = some z) (hs : z.cells = zs.toArray) :
    (Instr.alloc t true (.tuple #[])).run P w = .ok (.pointer (some ⟨w.heap.size, 0, none⟩)) (w.alloc (.cells zs.toArray t)) := by
  simp only [Instr.alloc, Sem.run_bind, run_zero hz, Result.andThen_ok, newVar, newRow, newObj, hs]
  rfl
theorem run_box {t : TypeId} {v : Value} {zs : List Value} (hs : v.cells = zs.toArray) :
    (Instr.box t v).run P w = .ok (.pointer (some ⟨w.heap.size, 0, none⟩)) (w.alloc (.cells zs.toArray t)) := by
  simp only [Instr.box, newVar, newRow, newObj, hs]
  rfl
theorem run_indexAt {t e : TypeId} {sz b o n c : Nat} {k : IntKind} {i : Int} (ht : P.underlying t = some (.slice e)) (hsz : sizeB P e sz = true) (h0 : 0 ≤ i) (h1 : i < n) :
    (Instr.indexAt t (.slice (some ⟨b, o, none⟩) n c) (.int k i)).run P w = .ok (.pointer (some ⟨b, o + i.toNat * sz, none⟩)) w := by
  simp only [Instr.indexAt, asIntOf, Sem.run_bind, Sem.run_pure, Result.andThen_ok, run_underlying ht, h0, h1, and_self, if_true, run_sizeOf hsz, add_at]

theorem run_append_none (base : Nat) (t ty e : TypeId) (size : Nat) (ht : P.underlying t = some (.slice e)) (hsz : sizeB P e size = true)
    (v : Value) (n : Nat) (xs : List Value) (hown : w.ownsRow base e size v n xs) (x : Option Addr) (c : Nat) :
    (Builtin.append_ #[t, t] ty #[v, .slice x 0 c]).run P w = .ok v w := by
  have key : ∀ (ad : Option Addr) (cap : Nat), n ≤ cap → (Builtin.append_ #[t, t] ty #[.slice ad n cap, .slice x 0 c]).run P w = .ok (.slice ad n cap) w := by
    intro ad cap hn
    cases ad <;> cases x <;> simp [Builtin.append_, run_underlying ht, run_sizeOf hsz, Builtin.lenOf, hn, Builtin.firstCells, storeCells, loadCells, loadCellsFrom]
  rcases hown.2 with ⟨rfl, rfl⟩ | ⟨g, cap, cur, rfl, _, _, hn, _⟩
  · exact key none 0 (Nat.le_refl _)
  · exact key _ _ hn

/-- append of what a slice reads to a slice of the program's own. -/
theorem run_append_sl (base : Nat) (t ty e : TypeId) (i : TypeInfo) (z : Value) (size bytes : Nat) (ht : P.underlying t = some (.slice e)) (hi : P.info? e = some i) (hz : i.zero = some z)
    (hsize : i.size = size) (hby : i.bytes = bytes) (hzs : z.cells.size = size) (hsz : 0 < size)
    (v : Value) (n : Nat) (xs : List Value) (hown : w.ownsRow base e size v n xs) (x : Value) (m : Nat) (news : List Value) (hx : Sl w x size m news) (h1 : ∀ u ∈ news, u.oneCell' = true)
    (h63 : n + m ≤ maxLen) (hbytes : (n + m) * bytes ≤ 140737488355328) (hbase : base ≤ w.heap.size) :
    ∃ v' w', (Builtin.append_ #[t, t] ty #[v, x]).run P w = .ok v' w' ∧ w'.ownsRow base e size v' (n + m) (xs ++ news) ∧ w.grownBy w' v.ownBlock ∧
      (∀ b, v'.ownBlock = some b → v.ownBlock = some b ∨ w.heap.size ≤ b) := by
  have hsB : sizeB P e size = true := by simp [sizeB, hi, hsize]
  obtain ⟨hxl, adx, c, rfl, hmc, hat⟩ := hx
  have hx : news.length = m * size ∧ True := ⟨hxl, trivial⟩
  rcases hat with rfl | ⟨b, o, rfl, hat⟩
  · have hn : news = [] := List.eq_nil_of_length_eq_zero (by simpa using hx.1)
    subst hn
    refine ⟨v, w, run_append_none base t ty e size ht hsB v n xs hown adx c, by simpa using hown, ⟨rfl, rfl, rfl, Nat.le_refl _, fun _ _ _ => rfl⟩, fun b hb => .inl hb⟩
  · obtain ⟨v', w', hr, ho, hg, hnil⟩ := run_append_own (P := P) w base t ty e i z size bytes ht hi hz hsize hby hzs hsz v n xs hown ⟨b, o, none⟩ m c news hx.1 (fun j u hu => by rw [add_at]; exact hat j u hu) h1 h63 hbytes hbase
    refine ⟨v', w', hr, ho, hg, fun b' hb' => ?_⟩
    -- the block of the result is the old one or a new one
    by_cases hold : v.ownBlock = some b'
    · exact .inl hold
    · right
      -- a block that is neither the old one nor new would be as it was: read the law again
      rcases hown.2 with ⟨rfl, rfl⟩ | ⟨g, cap, cur, rfl, hbg, hgg, hnc, hcm, hcs, htake⟩
      · by_cases hm : m = 0
        · subst hm
          have : v' = .slice none 0 0 := hnil.2 ⟨rfl, rfl⟩
          rw [this] at hb'; cases hb'
        · have hr2 := run_append_nil (P := P) w t ty e i z ht hi hz ⟨b, o, none⟩ m c news (by rw [hx.1, hsize]) (fun j u hu => by rw [add_at]; exact hat j u hu) (by omega) (by simp only [maxLen] at h63; omega) (by rw [hby]; simp only [Nat.zero_add] at hbytes; omega)
          rw [hr] at hr2
          injection hr2 with hv _
          rw [hv] at hb'
          simp only [Value.ownBlock, Option.some.injEq] at hb'
          omega
      · by_cases hroom : n + m ≤ cap
        · have hfit : n * i.size + news.length ≤ cur.size := by rw [hx.1, hcs, hsize, ← Nat.add_mul]; exact Nat.mul_le_mul_right _ hroom
          have hr2 := run_append_room (P := P) w t ty e i ht hi g n cap cur hgg ⟨b, o, none⟩ m c news (by rw [hx.1, hsize]) (fun j u hu => by rw [add_at]; exact hat j u hu) h1 hroom hfit
          rw [hr] at hr2
          injection hr2 with hv _
          rw [hv] at hb'
          exact absurd hb' hold
        · have hr2 := run_append_grow (P := P) w t ty e i z ht hi hz ⟨g, 0, none⟩ n cap xs (by rw [hown.1, hsize]) (World.ownsRow.cells hown (g := g) rfl) ⟨b, o, none⟩ m c news (by rw [hx.1, hsize]) (fun j u hu => by rw [add_at]; exact hat j u hu) (by omega) (by simp only [maxLen] at h63; omega) (by rw [hby]; exact growslice_fits (by omega) hbytes)
          rw [hr] at hr2
          injection hr2 with hv _
          rw [hv] at hb'
          simp only [Value.ownBlock, Option.some.injEq] at hb'
          omega
end
end Go.Sk
