/- From a row's premise to what the walk wants, and from the walk's end to what the row asks: for a law that returns true and turns nothing that was there. -/
import Derived.Test.YthbhbklbhfadnaaSkSlice
import Derived.ProofKit
import Derived.OpenShut
import Derived.Carry
import Derived.Deep.Slices
namespace Go.Sk
open Go Go.ChangeShapes Go.WideShapes Go.ChangeAt Go.RowKit Go.Deep

section
variable {H : Type} {enc : TypeId × Value → H} {P : Program} {w w' : World} {base : Nat} {spare : Nat → Bool} {held : Bool}

/-- Types that the reading knows. -/
def readB (P : Program) (ts : List TypeId) : Bool := ts.all fun t => P.readableRec t && decide (t < P.types.size)

/-- Arguments read behind the call as they read before it. -/
theorem trodAll_below (hl : laidOutB P = true) (hb : Below w.heap.size w w') : ∀ (ts : List TypeId) (vs : List Value) (ds : List (DataW H)) (ps : List MemPlace), readB P ts = true →
    DataW.TrodAll enc P w 0 (fun _ => true) true ts vs ds ps → (∀ x ∈ ps, x.block < w.heap.size) → DataW.TrodAll enc P w' 0 (fun b => decide (b < w.heap.size)) true ts vs ds ps
  | [], vs, ds, ps, _, h, _ => by
    cases vs <;> cases ds <;> simp [DataW.TrodAll] at h ⊢
    exact h
  | t :: ts, vs, ds, ps, hr, h, hlt => by
    obtain ⟨v, vs', d, ds', p, q, rfl, rfl, rfl, h1, h2⟩ := trodAll_cons h
    simp only [readB, List.all_cons, Bool.and_eq_true, decide_eq_true_eq] at hr
    exact trodAll_cons_mk (Below.trod hl hr.1.1 hr.1.2 h1 hb fun x hx => hlt x (by simp [hx]))
      (trodAll_below hl hb ts vs' ds' q (by simpa [readB] using hr.2) h2 fun x hx => hlt x (by simp [hx]))

/-- What the row asks at the end, where the law returned true and nothing that was there has turned. -/
theorem law_post {f : Func} {s : ChangeSpec} {W W' : World} {args : Array Value} {ds : List (DataW H)} {before : List MemPlace} {tb : TypeId}
    (hl : laidOutB P = true) (hr : readB P f.params.toList = true) (hvars : s.vars = []) (hW : DataW.Whole enc P f.params.toList [] false W args.toList ds [] before)
    (hs : (s.fn H ds) = { results := [.lit (.bool true)], args := ds }) (hrt : f.resultTypes = #[tb]) (hb : P.underlying tb = some .bool) (hm : Mod none' W W') :
    s.post enc P f false true false false W args (.bool true) W' := by
  have hbel : Below W.heap.size W W' := hm.below _ (Nat.le_refl _) fun b h => h.elim
  have hlt : ∀ x ∈ before, x.block < W.heap.size := fun x hx => hW.lt x hx
  have hW0 := hW
  obtain ⟨p, q, hA, hV, rfl, hz, hn⟩ := hW
  obtain ⟨_, hq⟩ := trodVars_none hV
  rw [hq, List.append_nil] at hlt hW0
  have hs' : s.fn H (ds ++ []) = { results := [.lit (.bool true)], args := ds } := by rw [List.append_nil]; exact hs
  refine ⟨ds, [], p, [], p, [], by rw [hvars]; exact hW0, ?_, ?_, ?_, World.keptBut_mono (fun x hx => ⟨hx, .inr (.inl hx)⟩) (hbel.frame (· ∈ p)), fun h => by cases h⟩
  · rw [hs', hrt]
    exact trodAll_cons_mk (shut_bool hb true) trodAll_mk0
  · rw [hs']
    exact trodAll_below hl hbel _ _ _ _ hr hA hlt
  · rw [hs', hvars]
    simp [DataW.TrodVars]

/-! ### opening: plain things -/
/-- Whole numbers in their bounds. -/
def okNum (v : Value) : Prop := ∀ k n, v = .int k n → (Lit.int k n).wf = true
theorem trod_fields {d : Nat} (ih : ∀ (t : TypeId) (ks : List (Option IntKind)) (n : Nat) (cs : List Value) (x : DataW H × List MemPlace), kindsOf P d t = some ks → sizeB P t ks.length = true → DataW.trod enc P w base spare held n t cs = some x → ofKinds ks cs = true ∧ ∀ v ∈ cs, okNum v)
    (n : Nat) (cs : List Value) : ∀ (fs : List Field) (off : Nat) (ks : List (Option IntKind)), kindsOf.fieldKinds P (kindsOf P d) fs off = some ks →
      (∀ f ∈ fs, ∃ y, DataW.trod enc P w base spare held n f.type ((cs.drop f.offset).take (P.cellsOf f.type)) = some y) → cs.length = off + ks.length → ofKinds ks (cs.drop off) = true ∧ ∀ v ∈ cs.drop off, okNum v
  | [], off, ks, hk, _, hlen => by
    simp only [kindsOf.fieldKinds, Option.some.injEq] at hk
    subst hk
    have : cs.drop off = [] := List.drop_of_length_le (by simp at hlen; omega)
    rw [this]
    exact ⟨rfl, fun v hv => by simp at hv⟩
  | f :: fs, off, ks, hk, hf, hlen => by
    unfold kindsOf.fieldKinds at hk
    by_cases hc : f.name = "_" ∨ f.offset ≠ off
    · rw [if_pos hc] at hk; cases hk
    · rw [if_neg hc] at hk
      have ho : f.offset = off := Classical.byContradiction fun h => hc (.inr h)
      cases ha : kindsOf P d f.type with
      | none => rw [ha] at hk; cases hk
      | some a =>
        rw [ha] at hk
        simp only [] at hk
        by_cases hsz : sizeB P f.type a.length = true
        · rw [if_pos hsz] at hk
          cases hr : kindsOf.fieldKinds P (kindsOf P d) fs (off + a.length) with
          | none => rw [hr] at hk; cases hk
          | some b =>
            rw [hr] at hk
            simp only [Option.map_some, Option.some.injEq] at hk
            subst hk
            rw [List.length_append] at hlen
            obtain ⟨y, hy⟩ := hf f (by simp)
            have hco : P.cellsOf f.type = a.length := by
              unfold sizeB at hsz
              unfold Program.cellsOf
              cases hi : P.info? f.type with
              | none => rw [hi] at hsz; cases hsz
              | some i => rw [hi] at hsz; simpa using hsz
            rw [ho, hco] at hy
            obtain ⟨k1, k2⟩ := ih f.type a n _ y ha hsz hy
            obtain ⟨r1, r2⟩ := trod_fields ih n cs fs (off + a.length) b hr (fun g hg => hf g (by simp [hg])) (by omega)
            have hsplit : cs.drop off = (cs.drop off).take a.length ++ cs.drop (off + a.length) := by rw [← List.drop_drop, List.take_append_drop]
            rw [hsplit]
            refine ⟨?_, fun v hv => ?_⟩
            · have : ∀ (x y : List (Option IntKind)) (u v : List Value), ofKinds x u = true → ofKinds y v = true → ofKinds (x ++ y) (u ++ v) = true := by
                intro x
                induction x with
                | nil => intro y u v h1 h2; cases u <;> simp [ofKinds] at h1; simpa using h2
                | cons k x ihx =>
                  intro y u v h1 h2
                  cases u with
                  | nil => simp [ofKinds] at h1
                  | cons c u =>
                    simp only [ofKinds, Bool.and_eq_true] at h1
                    simp only [List.cons_append, ofKinds, Bool.and_eq_true]
                    exact ⟨h1.1, ihx y u v h1.2 h2⟩
              exact this _ _ _ _ k1 r1
            · rcases List.mem_append.1 hv with h | h
              · exact k2 v h
              · exact r2 v h
        · rw [if_neg hsz] at hk; cases hk
theorem trod_plain : ∀ (d : Nat) (t : TypeId) (ks : List (Option IntKind)) (n : Nat) (cs : List Value) (x : DataW H × List MemPlace), kindsOf P d t = some ks → sizeB P t ks.length = true →
    DataW.trod enc P w base spare held n t cs = some x → ofKinds ks cs = true ∧ ∀ v ∈ cs, okNum v
  | 0, _, _, _, _, _, hk, _, _ => by simp [kindsOf] at hk
  | d + 1, t, ks, n, cs, x, hk, hsz, h => by
    unfold kindsOf at hk
    cases hu : P.underlying t with
    | none => rw [hu] at hk; cases hk
    | some dsc =>
      rw [hu] at hk
      cases dsc <;> simp only [] at hk <;> first | (cases hk; done) | skip
      case int k =>
        injection hk with hk
        subst hk
        obtain ⟨m, rfl, _, hwf⟩ := DataW.trod_int hu h
        refine ⟨by simp [ofKinds, ofKind], fun v hv => ?_⟩
        simp at hv
        subst hv
        intro k' n' he
        injection he with h1 h2
        subst h1 h2
        exact hwf
      case bool =>
        injection hk with hk
        subst hk
        obtain ⟨b, rfl, _⟩ := DataW.trod_bool hu h
        refine ⟨by simp [ofKinds, ofKind], fun v hv => ?_⟩
        simp at hv
        subst hv
        intro k' n' he
        cases he
      case struct fs =>
        split at hk
        · cases hk
        · obtain ⟨xs, m, _, _, hl, hlen, hf⟩ := DataW.trod_struct hu h
          have hco : P.cellsOf t = ks.length := by
            unfold sizeB at hsz
            unfold Program.cellsOf
            cases hi : P.info? t with
            | none => rw [hi] at hsz; cases hsz
            | some i => rw [hi] at hsz; simpa using hsz
          have := trod_fields (fun t ks n cs x => trod_plain d t ks n cs x) m cs fs.toList 0 ks hk (fun f hfm => by
            obtain ⟨j, hj⟩ := List.getElem?_of_mem hfm
            have hj' : fs[j]? = some f := by simpa using hj
            have := hf j f hj'
            have hjl : j < xs.length := by rw [hlen]; exact (Array.getElem?_eq_some_iff.1 hj').1
            exact ⟨xs[j], by rw [this, List.getElem?_eq_getElem hjl]⟩) (by rw [hl, hco, Nat.zero_add])
          simpa using this

/-- What is asked of a type that reads as a thing of Lean's. -/
structure ElTy {α : Type} (P : Program) (e : TypeId) (E : El α) (ks : List (Option IntKind)) : Prop where
  kinds : kindsOf P 9 e = some ks
  size : sizeB P e ks.length = true
  sz : E.sz = ks.length
  pos : 0 < E.sz
  ofk : ∀ cs, ofKinds ks cs = true → ∃ x, cs = E.cells x

/-- A slice of plain things, as a list. -/
theorem open_list {α : Type} {E : El α} {t e : TypeId} {ks : List (Option IntKind)} {v : Value} {d : DataW H} {ps : List MemPlace} (T : ElTy P e E ks) (ht : P.underlying t = some (.slice e))
    {r : Reach} {b0 : Nat} (hv : Value.okWide P w r b0 t v) (h : DataW.Trod enc P w base spare held t v d ps) :
    ∃ l : List α, Rd w E v l ∧ l.length ≤ maxLen ∧ ∀ x ∈ l, ∀ u ∈ E.cells x, okNum u := by
  obtain ⟨fuel, hf⟩ := h
  obtain ⟨ad, len, cap, rfl⟩ := okWide_slice ht hv
  have hco : P.cellsOf e = E.sz := by
    have := T.size
    unfold sizeB at this
    unfold Program.cellsOf
    rw [T.sz]
    cases hi : P.info? e with
    | none => rw [hi] at this; cases this
    | some i => rw [hi] at this; simpa using this
  rcases open_slice ht hf with ⟨h0, _⟩ | ⟨a, len', cap', m, n, D, Pl, hcs, hb, hl, hm, hmm, _, hi⟩
  · have h0' : [Value.slice ad len cap] = [.slice none 0 0] := h0
    injection h0' with h0' _
    injection h0' with h1 h2 h3
    subst h1 h2 h3
    exact ⟨[], Rd.nil w E, by simp [maxLen], fun x hx => by simp at hx⟩
  · have hcs' : [Value.slice ad len cap] = [.slice (some a) len' cap'] := hcs
    injection hcs' with hcs' _
    injection hcs' with h1 h2 h3
    subst h1 h2 h3
    rw [hco] at hi
    have hlm : len ≤ m := by rw [hmm]; split <;> omega
    have key : ∀ i, i < len → ∃ x : α, (∀ j u, (E.cells x)[j]? = some u → w.cell? (a.add (i * E.sz + j)) = some u) ∧ ∀ u ∈ E.cells x, okNum u := by
      intro i hil
      obtain ⟨cs', hc, htr⟩ := hi i (by omega)
      obtain ⟨_, hcl, hat⟩ := World.cells?_some hc
      obtain ⟨hk, hn⟩ := trod_plain 9 e ks n cs' _ T.kinds T.size htr
      obtain ⟨x, rfl⟩ := T.ofk cs' hk
      refine ⟨x, fun j u hu => ?_, hn⟩
      have hj : j < E.sz := by rw [← hcl]; exact (List.getElem?_eq_some_iff.1 hu).1
      have := hat j hj
      rw [Go.Deep.add_add] at this
      rw [this, hu]
    by_cases hlen : len = 0
    · subst hlen
      exact ⟨[], ⟨by simp [flat], _, _, rfl, Nat.zero_le _, .inl rfl⟩, by simp [maxLen], fun x hx => by simp at hx⟩
    · -- the address is a plain one
      have hspot : a.spot = none := by
        obtain ⟨x, hx, _⟩ := key 0 (by omega)
        have h0 : 0 < (E.cells x).length := by rw [E.len]; exact T.pos
        have := hx 0 _ (List.getElem?_eq_getElem h0)
        simp only [Nat.zero_mul, Nat.add_zero, Addr.add_zero'] at this
        unfold World.cell? at this
        split at this
        · split at this
          · cases this
          · rename_i hs; simpa using hs
        · cases this
      obtain ⟨b, o, sp⟩ := a
      simp only at hspot
      subst hspot
      refine ⟨(List.range len).attach.map fun i => Classical.choose (key i.1 (List.mem_range.1 i.2)), ?_, by simp; omega, fun x hx => ?_⟩
      · refine ⟨by rw [E.flat_len], some ⟨b, o, none⟩, cap, by simp, by simpa using hl, .inr ⟨b, o, rfl, ?_⟩⟩
        intro j u hu
        have hjl : j < len * E.sz := by
          have := (List.getElem?_eq_some_iff.1 hu).1
          rw [E.flat_len] at this
          simpa using this
        have hdiv : j / E.sz < len := Nat.div_lt_of_lt_mul (by rw [Nat.mul_comm]; exact hjl)
        have hmod : j % E.sz < E.sz := Nat.mod_lt _ T.pos
        have hget : ((List.range len).attach.map fun i => Classical.choose (key i.1 (List.mem_range.1 i.2)))[j / E.sz]? = some (Classical.choose (key (j / E.sz) hdiv)) := by
          rw [List.getElem?_map, List.getElem?_attach]
          simp [hdiv]
        have hx := (Classical.choose_spec (key (j / E.sz) hdiv)).1
        have hcu : (E.cells (Classical.choose (key (j / E.sz) hdiv)))[j % E.sz]? = some ((E.cells (Classical.choose (key (j / E.sz) hdiv)))[j % E.sz]'(by rw [E.len]; exact hmod)) := List.getElem?_eq_getElem _
        have h1 := flat_get E.cells E.sz E.len _ _ _ hget _ _ hcu
        have hj : j / E.sz * E.sz + j % E.sz = j := by rw [Nat.mul_comm]; exact Nat.div_add_mod j E.sz
        rw [hj] at h1
        have h2 := hx _ _ hcu
        rw [h1] at hu
        rw [Option.some.inj hu, add_at, hj] at h2
        exact h2
      · obtain ⟨i, _, rfl⟩ := List.mem_map.1 hx
        exact (Classical.choose_spec (key i.1 (List.mem_range.1 i.2))).2

/-- A thing by value. -/
theorem open_thing {α : Type} {E : El α} {e : TypeId} {ks : List (Option IntKind)} {v : Value} {d : DataW H} {ps : List MemPlace} (T : ElTy P e E ks) (hs : aggStruct P e = true)
    {r : Reach} {b0 : Nat} (hv : Value.okWide P w r b0 e v) (h : DataW.Trod enc P w base spare held e v d ps) : ∃ x : α, v = .agg (E.cells x).toArray ∧ ∀ u ∈ E.cells x, okNum u := by
  obtain ⟨fuel, hf⟩ := h
  unfold aggStruct at hs
  cases hu : P.underlying e with
  | none => rw [hu] at hs; cases hs
  | some dsc =>
    rw [hu] at hs
    cases dsc <;> first | (cases hs; done) | skip
    obtain ⟨cs, rfl, hsz⟩ := okWide_struct hu hv
    obtain ⟨hk, hn⟩ := trod_plain 9 e ks fuel _ _ T.kinds T.size hf
    obtain ⟨x, hx⟩ := T.ofk _ hk
    have hx' : cs.toList = E.cells x := hx
    exact ⟨x, by rw [← hx'], by rw [← hx]; exact hn⟩

theorem ofk_int : ∀ cs, ofKinds [some .i64] cs = true → ∃ x, cs = elInt.cells x := by
  intro cs h
  obtain ⟨c, rfl⟩ := List.length_eq_one_iff.1 (ofKinds_length _ _ h)
  cases c <;> simp [ofKinds, ofKind] at h
  subst h
  exact ⟨_, rfl⟩
theorem ofk_cons {k : Option IntKind} {ks : List (Option IntKind)} {cs : List Value} (h : ofKinds (k :: ks) cs = true) : ∃ c cs', cs = c :: cs' ∧ ofKind k c = true ∧ ofKinds ks cs' = true := by
  cases cs with
  | nil => simp [ofKinds] at h
  | cons c cs => simp only [ofKinds, Bool.and_eq_true] at h; exact ⟨c, cs, rfl, h.1, h.2⟩
theorem ofk_nil {cs : List Value} (h : ofKinds [] cs = true) : cs = [] := by cases cs <;> simp [ofKinds] at h ⊢
theorem ofk_I {c : Value} (h : ofKind kI c = true) : ∃ n, c = .int .i64 n := by cases c <;> simp [ofKind, kI] at h; subst h; exact ⟨_, rfl⟩
theorem ofk_B {c : Value} (h : ofKind kB c = true) : ∃ n, c = .bool n := by cases c <;> simp [ofKind, kB] at h; exact ⟨_, rfl⟩
theorem ofk_cell : ∀ cs, ofKinds cellKs cs = true → ∃ x, cs = elCell.cells x := by
  intro cs h
  obtain ⟨_, _, rfl, e1, g1⟩ := ofk_cons h; obtain ⟨a0, rfl⟩ := ofk_I e1
  obtain ⟨_, _, rfl, e2, g2⟩ := ofk_cons g1; obtain ⟨a1, rfl⟩ := ofk_I e2
  obtain rfl := ofk_nil g2
  exact ⟨⟨a0, a1⟩, rfl⟩
theorem ofk_pose : ∀ cs, ofKinds poseKs cs = true → ∃ x, cs = elPose.cells x := by
  intro cs h
  obtain ⟨_, _, rfl, e1, g1⟩ := ofk_cons h; obtain ⟨a0, rfl⟩ := ofk_I e1
  obtain ⟨_, _, rfl, e2, g2⟩ := ofk_cons g1; obtain ⟨a1, rfl⟩ := ofk_I e2
  obtain ⟨_, _, rfl, e3, g3⟩ := ofk_cons g2; obtain ⟨a2, rfl⟩ := ofk_B e3
  obtain rfl := ofk_nil g3
  exact ⟨⟨⟨a0, a1⟩, a2⟩, rfl⟩
theorem ofk_move : ∀ cs, ofKinds moveKs cs = true → ∃ x, cs = elMove.cells x := by
  intro cs h
  obtain ⟨_, _, rfl, e1, g1⟩ := ofk_cons h; obtain ⟨a0, rfl⟩ := ofk_I e1
  obtain ⟨_, _, rfl, e2, g2⟩ := ofk_cons g1; obtain ⟨a1, rfl⟩ := ofk_I e2
  obtain ⟨_, _, rfl, e3, g3⟩ := ofk_cons g2; obtain ⟨a2, rfl⟩ := ofk_I e3
  obtain ⟨_, _, rfl, e4, g4⟩ := ofk_cons g3; obtain ⟨a3, rfl⟩ := ofk_I e4
  obtain ⟨_, _, rfl, e5, g5⟩ := ofk_cons g4; obtain ⟨a4, rfl⟩ := ofk_I e5
  obtain ⟨_, _, rfl, e6, g6⟩ := ofk_cons g5; obtain ⟨a5, rfl⟩ := ofk_B e6
  obtain ⟨_, _, rfl, e7, g7⟩ := ofk_cons g6; obtain ⟨a6, rfl⟩ := ofk_I e7
  obtain ⟨_, _, rfl, e8, g8⟩ := ofk_cons g7; obtain ⟨a7, rfl⟩ := ofk_I e8
  obtain ⟨_, _, rfl, e9, g9⟩ := ofk_cons g8; obtain ⟨a8, rfl⟩ := ofk_B e9
  obtain ⟨_, _, rfl, e10, g10⟩ := ofk_cons g9; obtain ⟨a9, rfl⟩ := ofk_I e10
  obtain ⟨_, _, rfl, e11, g11⟩ := ofk_cons g10; obtain ⟨a10, rfl⟩ := ofk_I e11
  obtain rfl := ofk_nil g11
  exact ⟨⟨a0, a1, a2, ⟨⟨a3, a4⟩, a5⟩, ⟨⟨a6, a7⟩, a8⟩, a9, a10⟩, rfl⟩
theorem ofk_tele : ∀ cs, ofKinds teleKs cs = true → ∃ x, cs = elTele.cells x := by
  intro cs h
  obtain ⟨_, _, rfl, e1, g1⟩ := ofk_cons h; obtain ⟨a0, rfl⟩ := ofk_I e1
  obtain ⟨_, _, rfl, e2, g2⟩ := ofk_cons g1; obtain ⟨a1, rfl⟩ := ofk_I e2
  obtain ⟨_, _, rfl, e3, g3⟩ := ofk_cons g2; obtain ⟨a2, rfl⟩ := ofk_I e3
  obtain ⟨_, cs', rfl, e4, g4⟩ := ofk_cons g3; obtain ⟨a3, rfl⟩ := ofk_I e4
  have hm : ofKinds (moveKs ++ (poseKs ++ [kI])) cs' = true := g4
  obtain ⟨h1, h2⟩ := ofKinds_append _ _ _ hm
  obtain ⟨h3, h4⟩ := ofKinds_append _ _ _ h2
  obtain ⟨m, hm'⟩ := ofk_move _ h1
  obtain ⟨p, hp⟩ := ofk_pose _ h3
  obtain ⟨_, _, he, h0, h5⟩ := ofk_cons h4; obtain ⟨a4, rfl⟩ := ofk_I h0
  obtain rfl := ofk_nil h5
  refine ⟨⟨a0, a1, a2, a3, m, p, a4⟩, ?_⟩
  have : cs' = elMove.cells m ++ (elPose.cells p ++ [.int .i64 a4]) := by
    rw [← hm', ← hp, ← he, List.take_append_drop, List.take_append_drop]
  rw [this]
  rfl
end
end Go.Sk
