/- A region that draws its order, some of whose loads are not ordered against its calls: they read what the region never turns. -/
import Derived.Test.YthbhbklbhfadnaaSkPure
namespace Go.Sk
open Go

section
variable {P : Program} {ops : Array Oper} {C : World → Prop}

/-- The walk in the text's order; each step says that the class is not left. -/
def wpC (P : Program) (ops : Array Oper) (C : World → Prop) (Q : Act → World → Prop) : List Oper → Act → World → Prop
  | [], a, w => Q a w
  | o :: rest, a, w => wpList P ops (atEnd fun a' w' => C w' ∧ wpC P ops C Q rest a' w') [o] a w

theorem wpC_nil {Q : Act → World → Prop} {a : Act} {w : World} (h : Q a w) : wpC P ops C Q [] a w := h
theorem wpC_end {Q : Act → World → Prop} {a : Act} {w : World} (h : wpC P ops C Q [] a w) : Q a w := h
theorem wpC_of {Q : Act → World → Prop} {o : Oper} {rest : List Oper} {a : Act} {w : World} (h : wpList P ops (atEnd fun a' w' => C w' ∧ wpC P ops C Q rest a' w') [o] a w) : wpC P ops C Q (o :: rest) a w := h
theorem atEndC {Q : Act → World → Prop} {a : Act} {w : World} (h1 : C w) (h2 : Q a w) : atEnd (fun a w => C w ∧ Q a w) .normal a w := ⟨h1, h2⟩

theorem wpC_cons {Q : Act → World → Prop} {o : Oper} {l : List Oper} {a : Act} {w : World} (h : wpC P ops C Q (o :: l) a w) :
    if Region.wanted o (yielded ops a.tmps) then o.wp P a w (fun a' w' => C w' ∧ wpC P ops C Q l a' w') noExit else C w ∧ wpC P ops C Q l (a.put o.dst undef) w := by
  have h1 := wpList_cons h
  split
  · rename_i hw
    rw [if_pos hw] at h1
    exact wp_monoQ (fun a' w' hh => hh) h1
  · rename_i hw
    rw [if_neg hw] at h1
    exact h1

theorem wpC_run {Q : Act → World → Prop} : ∀ (l : List Oper) (a : Act) (w : World), wpC P ops C Q l a w →
    ∃ a' w', Q a' w' ∧ ∀ t, (∀ o ∈ l, o.dst ≠ some t) → a'.tmps[t]? = a.tmps[t]?
  | [], a, w, h => ⟨a, w, h, fun _ _ => rfl⟩
  | o :: l, a, w, h => by
    have put : ∀ (a : Act) (v : Value) t, o.dst ≠ some t → (a.put o.dst v).tmps[t]? = a.tmps[t]? := by
      intro a v t ht
      cases hd : o.dst with
      | none => rfl
      | some d => simp [Act.put, Array.getElem?_setIfInBounds_ne (show d ≠ t from fun e => ht (by rw [hd, e]))]
    have h1 := wpC_cons h
    split at h1
    · obtain ⟨a1, w1, ⟨ds, u, rfl⟩, _, h2⟩ := wp_exists (wp_after h1)
      obtain ⟨a', w', hq, ht⟩ := wpC_run l _ w1 h2
      refine ⟨a', w', hq, fun t hn => ?_⟩
      rw [ht t (fun o' ho' => hn o' (by simp [ho'])), put _ _ t (hn o (by simp))]
    · obtain ⟨a', w', hq, ht⟩ := wpC_run l _ w h1.2
      refine ⟨a', w', hq, fun t hn => ?_⟩
      rw [ht t (fun o' ho' => hn o' (by simp [ho'])), put _ _ t (hn o (by simp))]

/-- The loud ones but for those of S. -/
def loudS (P : Program) (S : List Nat) (l : List Oper) : List Nat := (loudOf P 0 l).filter fun k => !S.contains k
/-- What S names: loads into slots of their own, whose operands no later operation writes. -/
def stableOk (ops : Array Oper) (S : List Nat) : Bool :=
  S.all fun k => match ops[k]? with
    | some o => (match o.dst with
        | some d => ((List.range ops.size).all fun j => decide (j ≤ k) || (match ops[j]? with
            | some oj => (match oj.dst with | some dj => dj != d && !(o.looksAt ops).contains dj | none => true)
            | none => true)) && !(o.looksAt ops).contains d
        | none => false)
    | none => false
/-- At the end: each load of S has in its slot what it gives in every world of the class. -/
def stays (P : Program) (ops : Array Oper) (C : World → Prop) (S : List Nat) (a : Act) : Prop :=
  ∀ k ∈ S, ∀ o, ops[k]? = some o → Region.wanted o (yielded ops a.tmps) = true → ∀ w, C w → gives P (execOp a.eval o) ((o.dst.map fun d => a.tmps.getD d undef).getD undef) w

theorem same_eval {o : Oper} {a a' : Act} (hs : ∀ cs b, o.op ≠ .select cs b) (h : ∀ t, t ∈ o.looksAt ops → a'.tmps[t]? = a.tmps[t]?) : execOp a'.eval o = execOp a.eval o :=
  execOp_congr o hs fun x hx => by
    cases x with
    | tmp t =>
      have := h t (List.mem_append_left _ (List.mem_filterMap.2 ⟨.tmp t, by simpa using hx, rfl⟩))
      simp [Act.eval, this]
    | _ => rfl

theorem wpLex_of_wpC {Q : Act → World → Prop} {S : List Nat} {full : List Oper} (hfullops : ops = full.toArray) (hsel : Region.noSelect ops = true) (hS : stableOk ops S = true) : ∀ (l : List Oper) (k : Nat) (a : Act) (w : World), C w →
    (∀ j, l[j]? = ops[k + j]?) → stableB ops l = true →
    wpC P ops C (fun a w => shapesOk P ops full a = true ∧ stays P ops C S a ∧ Q a w) l a w →
    (∀ o ∈ l, ∀ d, o.dst = some d → d < a.tmps.size) → wpLex P ops C (loudS P S full) Q k l a w
  | [], _, _, _, _, _, _, h, _ => h.2.2
  | o :: l, k, a, w, hC, hl, hst, h, hd => by
    have hk0 : ops[k]? = some o := by simpa using (hl 0).symm
    have hmem : ∀ o' ∈ o :: l, o' ∈ full := fun o' ho' => by
      obtain ⟨j, hj⟩ := List.getElem?_of_mem ho'
      rw [hl j, hfullops] at hj
      simp only [List.getElem?_toArray] at hj
      exact List.mem_of_getElem? hj
    have hsz : ∀ (d : Option Tmp) (v : Value), (a.put d v).tmps.size = a.tmps.size := fun d v => by cases d <;> simp [Act.put]
    have rest : ∀ a' w', C w' → a'.tmps.size = a.tmps.size → wpC P ops C (fun a w => shapesOk P ops full a = true ∧ stays P ops C S a ∧ Q a w) l a' w' → wpLex P ops C (loudS P S full) Q (k + 1) l a' w' := fun a' w' hC' hsz' h' =>
      wpLex_of_wpC hfullops hsel hS l (k + 1) a' w' hC' (fun j => by have := hl (j + 1); simpa [Nat.add_assoc, Nat.add_comm 1 j] using this)
        (by simp only [stableB, Bool.and_eq_true] at hst; exact hst.2) h' (fun o' ho' d hd' => by rw [hsz']; exact hd o' (by simp [ho']) d hd')
    have h1 := wpC_cons h
    have hL : (loudS P S full).contains k = true ↔ (quietKind P o = false ∧ S.contains k = false) := by
      have h0 : full[k]? = some o := by rw [hfullops] at hk0; simpa using hk0
      have hm := mem_loudOf (P := P) full 0 k o h0
      rw [Nat.zero_add] at hm
      unfold loudS
      rw [List.contains_iff_mem, List.mem_filter, ← List.contains_iff_mem, hm]
      simp
    unfold wpLex
    split
    · rename_i hw
      rw [if_pos hw] at h1
      unfold stepL
      split
      · have h2 := wp_after h1
        refine wp_monoQ (fun a' w' hh => ⟨hh.2.1, rest a' w' hh.2.1 ?_ hh.2.2⟩) h2
        obtain ⟨ds, u, rfl⟩ := hh.1
        cases hdd : o.dst <;> simp [Act.put]
      · rename_i hl'
        obtain ⟨af, wf, ⟨hsh, hstay, _⟩, ht⟩ := wpC_run (o :: l) a w h
        by_cases hSk : S.contains k = true
        · -- a load of S
          have hok := List.all_eq_true.1 hS k (List.contains_iff_mem.1 hSk)
          simp only [hk0] at hok
          cases hdst : o.dst with
          | none => rw [hdst] at hok; cases hok
          | some d =>
            rw [hdst] at hok
            simp only [Bool.and_eq_true, List.all_eq_true, List.mem_range, Bool.or_eq_true, decide_eq_true_eq, Bool.not_eq_true'] at hok
            obtain ⟨hlater, hown⟩ := hok
            have hlook : ∀ t, t ∈ o.looksAt ops → af.tmps[t]? = a.tmps[t]? := fun t hm => ht t fun o' ho' hd' => by
              rcases List.mem_cons.1 ho' with rfl | ho'
              · rw [hdst] at hd'
                injection hd' with hd'
                subst hd'
                have := List.contains_iff_mem.2 hm
                rw [hown] at this
                cases this
              · obtain ⟨j, hj⟩ := List.getElem?_of_mem ho'
                have hj' : ops[k + (j + 1)]? = some o' := by rw [← hl (j + 1)]; simpa using hj
                have hlt : k + (j + 1) < ops.size := (Array.getElem?_eq_some_iff.1 hj').1
                have := (hlater (k + (j + 1)) hlt).resolve_left (by omega)
                rw [hj'] at this
                simp only [hd', Bool.and_eq_true, bne_iff_ne, Bool.not_eq_true'] at this
                have h3 := List.contains_iff_mem.2 hm
                rw [this.2] at h3
                cases h3
            have hso : ∀ cs b, o.op ≠ .select cs b := fun cs b => Region.noSelect_spec hsel k o cs b hk0
            have heval := same_eval hso hlook
            have hwant : Region.wanted o (yielded ops af.tmps) = true := by
              rw [(same_ends hlook).2]; exact hw
            have hval := hstay k (List.contains_iff_mem.1 hSk) o hk0 hwant
            rw [heval, hdst] at hval
            simp only [Option.map_some, Option.getD_some] at hval
            -- the value that the step put there is the one that stays
            unfold same
            refine ⟨af.tmps.getD d undef, hval, ?_⟩
            have hh := gives_back (hval w hC) h1
            exact rest _ _ hC (hsz _ _) hh.2
        · have hSk' : S.contains k = false := by simpa using hSk
          have hq : quietKind P o = true := by
            cases hb : quietKind P o
            · exact absurd (hL.2 ⟨hb, hSk'⟩) hl'
            · rfl
          have hshape : quietAt o a.eval = true := by
            cases hlk : looks o
            · exact quietAt_of_not o _ hlk
            · simp only [stableB, hlk, Bool.not_true, Bool.false_or, Bool.and_eq_true] at hst
              have hall := List.all_eq_true.1 hst.1
              obtain ⟨e1, e2⟩ := same_ends (ops := ops) (o := o) (a := a) (a' := af) (fun t hm => ht t fun o' ho' hd' => by
                have := hall o' ho'
                rw [hd'] at this
                simp at this
                exact this hm)
              have := List.all_eq_true.1 hsh o (hmem o (by simp))
              rw [e1, e2, hw, hq, hlk] at this
              simpa using this
          unfold same
          have hh := h1
          unfold Oper.wp at hh
          cases hr : (execOp a.eval o).run P w with
          | ok n w1 =>
            obtain ⟨v, rfl⟩ := value_of o a.eval hq hr
            rw [hr] at hh
            have hv := valDet_of (P := P) o a.eval hq hshape w v w1 hr
            have hw1 := hv w
            rw [hr] at hw1
            injection hw1 with _ hw1
            subst hw1
            exact ⟨v, fun w2 _ => .inl (hv w2), rest _ _ hh.1 (hsz _ _) hh.2⟩
          | halt x w1 => rw [hr] at hh; cases x <;> simp only [Oper.upon, noExit] at hh
    · rename_i hw
      rw [if_neg hw] at h1
      exact rest _ _ hC (hsz _ _) h1.2

def drawOkS (P : Program) (S : List Nat) (l : List Oper) : Bool := lexOk l.toArray (loudS P S l) && stableB l.toArray l && stableOk l.toArray S

/-- A REGION THAT DRAWS ITS ORDER; the loads S are not ordered against its calls, and read what the class fixes. -/
theorem wp_region_stable {id : Nat} {Q : Exit → Act → World → Prop} {a : Act} {w : World} {l : List Oper} (S : List Nat) (C : World → Prop) (hm : P.follows .mixedOrders = true) (hB : drawOkS P S l = true)
    (hC : C w.drew) (hCa : ∀ w ob, C w → C (w.alloc ob)) (hd : (l.all fun o => match o.dst with | some d => decide (d < a.tmps.size) | none => true) = true)
    (h : wpC P l.toArray C (fun a w => shapesOk P l.toArray l a = true ∧ stays P l.toArray C S a ∧ Q .normal a w) l a w.drew) : (Code.region id l.toArray true).wp P Q a w := by
  simp only [drawOkS, Bool.and_eq_true] at hB
  have hsel : Region.noSelect l.toArray = true := by
    have := hB.1.1
    simp only [lexOk, Bool.and_eq_true] at this
    exact this.1.1
  refine wp_region_lex (loudS P S l) C hm hB.1.1 hC hCa
    (wpLex_of_wpC (full := l) rfl hsel hB.2 l 0 a w.drew hC (by simp) hB.1.2 h (fun o ho d hod => by
      have := List.all_eq_true.1 hd o ho
      rw [hod] at this
      simpa using this))
end
attribute [irreducible] wpC
end Go.Sk
