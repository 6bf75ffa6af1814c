/- Slices of things that hold slices; loads that hold still. -/
import Derived.Test.YthbhbklbhfadnaaSkRow
import Derived.Test.YthbhbklbhfadnaaSkLast
namespace Go.Sk
open Go Go.ChangeShapes Go.WideShapes Go.ChangeAt Go.RowKit Go.Deep

section
variable {P : Program} {ops : Array Oper} {C : World → Prop}
theorem cell_alloc {w : World} {ob : Obj} {b k : Nat} {v : Value} (h : w.cell? ⟨b, k, none⟩ = some v) : (w.alloc ob).cell? ⟨b, k, none⟩ = some v := by
  have h2 : At w b k [v] := fun j u hu => by
    cases j with
    | zero => simp only [List.getElem?_cons_zero, Option.some.injEq] at hu; subst hu; exact h
    | succ j => simp at hu
  exact (h2.mod (Mod.alloc (F := none') w ob) (fun h => h)).cell (j := 0) rfl
theorem stays_nil {a : Act} : stays P ops C [] a := fun k hk => by simp at hk
theorem stays_load {k : Nat} {S : List Nat} {a : Act} {o : Oper} {t : TypeId} {x : Operand} {b off d : Nat} {v : Value} (ho : ops[k]? = some o) (hop : o.op = .load t x) (hd : o.dst = some d) (hx : a.eval x = .pointer (some ⟨b, off, none⟩))
    (hs : scalarB P t = true) (hv : a.tmps.getD d undef = v) (hc : ∀ W, C W → W.cell? ⟨b, off, none⟩ = some v) (rest : stays P ops C S a) : stays P ops C (k :: S) a := by
  intro k' hk o' ho' hw W hW
  rcases List.mem_cons.1 hk with rfl | hk
  · rw [ho] at ho'
    injection ho' with ho'
    subst ho'
    refine .inl ?_
    simp only [execOp, hop, hx, Sem.run_bind, run_load hs (hc W hW), Result.andThen_ok, Sem.run_pure, hd, Option.map_some, Option.getD_some, hv]
  · exact rest k' hk o' ho' hw W hW
theorem stays_call {k : Nat} {S : List Nat} {a : Act} {o : Oper} {d : Nat} {v : Value} {f : FuncId} {args : Array Value} (ho : ops[k]? = some o) (hd : o.dst = some d) (hv : a.tmps.getD d undef = v)
    (hr : ∀ W, (execOp a.eval o).run P W = .ok (.enter f args) W) (hc : ∀ W, C W → Calls P f args W fun e w' => e = .returned v ∧ w' = W) (rest : stays P ops C S a) : stays P ops C (k :: S) a := by
  intro k' hk o' ho' hw W hW
  rcases List.mem_cons.1 hk with rfl | hk
  · rw [ho] at ho'
    injection ho' with ho'
    subst ho'
    refine .inr ⟨f, args, hr W, ?_⟩
    simp only [hd, Option.map_some, Option.getD_some, hv]
    exact hc W hW
  · exact rest k' hk o' ho' hw W hW
end

section
variable {H : Type} {enc : TypeId × Value → H} {P : Program} {w w' : World} {base : Nat} {spare : Nat → Bool} {held : Bool}

/-- A slice of things that each read as R says. -/
theorem open_cs {α : Type} {E : El α} {R : α → Prop} {t e : TypeId} {n0 : Nat} {cs : List Value} {z : DataW H × List MemPlace} (hsz : sizeB P e E.sz = true) (hpos : 0 < E.sz)
    (htr : ∀ n cs x, DataW.trod enc P w base spare held n e cs = some x → ∃ a : α, cs = E.cells a ∧ R a) (ht : P.underlying t = some (.slice e))
    (hf : DataW.trod enc P w base spare held n0 t cs = some z) :
    ∃ v, cs = [v] ∧ ∃ l : List α, Rd w E v l ∧ l.length ≤ maxLen ∧ ∀ x ∈ l, R x := by
  have hco : P.cellsOf e = E.sz := by
    have := hsz
    unfold sizeB at this
    unfold Program.cellsOf
    cases hi : P.info? e with
    | none => rw [hi] at this; cases this
    | some i => rw [hi] at this; simpa using this
  rcases open_slice ht hf with ⟨h0, _⟩ | ⟨a, len, cap, m, n, D, Pl, hcs, hb, hl, hm, hmm, _, hi⟩
  · exact ⟨_, h0, [], Rd.nil w E, by simp [maxLen], fun x hx => by simp at hx⟩
  · refine ⟨_, hcs, ?_⟩
    rw [hco] at hi
    have hlm : len ≤ m := by rw [hmm]; split <;> omega
    have key : ∀ i, i < len → ∃ x : α, (∀ j u, (E.cells x)[j]? = some u → w.cell? (a.add (i * E.sz + j)) = some u) ∧ R x := by
      intro i hil
      obtain ⟨cs', hc, htr'⟩ := hi i (by omega)
      obtain ⟨_, hcl, hat⟩ := World.cells?_some hc
      obtain ⟨x, rfl, hn⟩ := htr n cs' _ htr'
      refine ⟨x, fun j u hu => ?_, hn⟩
      have hj : j < E.sz := by rw [← hcl]; exact (List.getElem?_eq_some_iff.1 hu).1
      have := hat j hj
      rw [Go.Deep.add_add] at this
      rw [this, hu]
    by_cases hlen : len = 0
    · subst hlen
      exact ⟨[], ⟨by simp [flat], _, _, rfl, Nat.zero_le _, .inl rfl⟩, by simp [maxLen], fun x hx => by simp at hx⟩
    · -- the address is a plain one
      have hspot : a.spot = none := by
        obtain ⟨x, hx, _⟩ := key 0 (by omega)
        have h0 : 0 < (E.cells x).length := by rw [E.len]; exact hpos
        have := hx 0 _ (List.getElem?_eq_getElem h0)
        simp only [Nat.zero_mul, Nat.add_zero, Addr.add_zero'] at this
        unfold World.cell? at this
        split at this
        · split at this
          · cases this
          · rename_i hs; simpa using hs
        · cases this
      obtain ⟨b, o, sp⟩ := a
      simp only at hspot
      subst hspot
      refine ⟨(List.range len).attach.map fun i => Classical.choose (key i.1 (List.mem_range.1 i.2)), ?_, by simp; omega, fun x hx => ?_⟩
      · refine ⟨by rw [E.flat_len], some ⟨b, o, none⟩, cap, by simp, by simpa using hl, .inr ⟨b, o, rfl, ?_⟩⟩
        intro j u hu
        have hjl : j < len * E.sz := by
          have := (List.getElem?_eq_some_iff.1 hu).1
          rw [E.flat_len] at this
          simpa using this
        have hdiv : j / E.sz < len := Nat.div_lt_of_lt_mul (by rw [Nat.mul_comm]; exact hjl)
        have hmod : j % E.sz < E.sz := Nat.mod_lt _ hpos
        have hget : ((List.range len).attach.map fun i => Classical.choose (key i.1 (List.mem_range.1 i.2)))[j / E.sz]? = some (Classical.choose (key (j / E.sz) hdiv)) := by
          rw [List.getElem?_map, List.getElem?_attach]
          simp [hdiv]
        have hx := (Classical.choose_spec (key (j / E.sz) hdiv)).1
        have hcu : (E.cells (Classical.choose (key (j / E.sz) hdiv)))[j % E.sz]? = some ((E.cells (Classical.choose (key (j / E.sz) hdiv)))[j % E.sz]'(by rw [E.len]; exact hmod)) := List.getElem?_eq_getElem _
        have h1 := flat_get E.cells E.sz E.len _ _ _ hget _ _ hcu
        have hj : j / E.sz * E.sz + j % E.sz = j := by rw [Nat.mul_comm]; exact Nat.div_add_mod j E.sz
        rw [hj] at h1
        have h2 := hx _ _ hcu
        rw [h1] at hu
        rw [Option.some.inj hu, add_at, hj] at h2
        exact h2
      · obtain ⟨i, _, rfl⟩ := List.mem_map.1 hx
        exact (Classical.choose_spec (key i.1 (List.mem_range.1 i.2))).2


/-- A slice's three numbers, and how its cell is a slice of plain things. -/
theorem open_plain {α : Type} {E : El α} {e : TypeId} {ks : List (Option IntKind)} (T : ElTy P e E ks) (n : Nat) (cs : List Value) (x : DataW H × List MemPlace) (h : DataW.trod enc P w base spare held n e cs = some x) : ∃ a : α, cs = E.cells a ∧ True := by
  obtain ⟨hk, hn⟩ := trod_plain 9 e ks n cs x T.kinds T.size h
  obtain ⟨a, rfl⟩ := T.ofk cs hk
  exact ⟨a, rfl, trivial⟩
theorem sizeB_el {α : Type} {E : El α} {e : TypeId} {ks : List (Option IntKind)} (T : ElTy P e E ks) : sizeB P e E.sz = true := by rw [T.sz]; exact T.size

/-- The argument itself. -/
theorem open_listR {α : Type} {E : El α} {R : α → Prop} {t e : TypeId} {v : Value} {d : DataW H} {ps : List MemPlace} (hsz : sizeB P e E.sz = true) (hpos : 0 < E.sz)
    (htr : ∀ n cs x, DataW.trod enc P w base spare held n e cs = some x → ∃ a : α, cs = E.cells a ∧ R a) (ht : P.underlying t = some (.slice e))
    {r : Reach} {b0 : Nat} (hv : Value.okWide P w r b0 t v) (h : DataW.Trod enc P w base spare held t v d ps) :
    ∃ l : List α, Rd w E v l ∧ l.length ≤ maxLen ∧ ∀ x ∈ l, R x := by
  obtain ⟨fuel, hf⟩ := h
  obtain ⟨ad, len, cap, rfl⟩ := okWide_slice ht hv
  obtain ⟨v', h1, h2⟩ := open_cs hsz hpos htr ht hf
  have h1' : [Value.slice ad len cap] = [v'] := h1
  injection h1' with h1' _
  subst h1'
  exact h2
end
end Go.Sk
