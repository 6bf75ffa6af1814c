/- A region that draws its order and ends with one operation that stands behind all others: that one may leave the class. -/
import Derived.Test.YthbhbklbhfadnaaSkStable
namespace Go.Sk
open Go

section
variable {P : Program} {ops : Array Oper} {C : World → Prop} {L : List Nat} {z : Nat}

/-- Whatever order is picked among the others; z comes last. -/
def anyZ (P : Program) (ops : Array Oper) (C : World → Prop) (L : List Nat) (z : Nat) (Q : Act → World → Prop) : Nat → Array Bool → Act → World → Prop
  | 0, listed, a, w => Region.ready .any ops listed ≠ [] ∧ (z ∈ Region.ready .any ops listed → Q a w) ∧ ∀ i ∈ Region.ready .any ops listed, i ≠ z → False
  | fuel + 1, listed, a, w =>
    Region.ready .any ops listed ≠ [] ∧ (z ∈ Region.ready .any ops listed → Q a w) ∧
    ∀ i ∈ Region.ready .any ops listed, i ≠ z → opL P ops C L i (anyZ P ops C L z Q fuel (listed.setIfInBounds i true)) a w

theorem anyZ_ne {Q : Act → World → Prop} {fuel : Nat} {listed : Array Bool} {a : Act} {w : World} (h : anyZ P ops C L z Q fuel listed a w) : Region.ready .any ops listed ≠ [] := by
  cases fuel <;> exact h.1
theorem anyZ_z {Q : Act → World → Prop} {fuel : Nat} {listed : Array Bool} {a : Act} {w : World} (h : anyZ P ops C L z Q fuel listed a w) : z ∈ Region.ready .any ops listed → Q a w := by
  cases fuel <;> exact h.2.1

theorem unlisted {listed : Array Bool} {k : Nat} (h1 : listed.getD k true = false) (h2 : listed.getD k false = true) : False := by
  rcases Nat.lt_or_ge k listed.size with h' | h'
  · simp [h'] at h1 h2; rw [h1] at h2; cases h2
  · simp [Array.getElem?_eq_none h'] at h2

/-- Where z is ready, all others are listed. -/
theorem all_listed {listed : Array Bool} (hb : okMasks ops (Region.before ops) = true) (hz : ∀ i, i < z → ((Region.before ops).getD z 0).testBit i = true) (hcl : Closed ops listed) (hr : z ∈ Region.ready .any ops listed) {i : Nat} (hi : i < z) :
    listed.getD i false = true := by
  obtain ⟨_, o, ho, hall⟩ := mem_ready.1 hr
  exact listed_of_mask hb hcl i z z o (Nat.le_refl _) ho hall (hz i hi)

theorem wpOp_mono {Q : Exit → Act → World → Prop} {i : Nat} {K K' : Act → World → Prop} {a : Act} {w : World} (h : ∀ a w, K a w → K' a w) (hh : wpOp P ops Q i K a w) : wpOp P ops Q i K' a w := by
  unfold wpOp at *
  split
  · rename_i ho; simp only [ho] at hh; exact h _ _ hh
  · rename_i o ho
    simp only [ho] at hh
    split
    · rename_i hw
      simp only [hw, if_true] at hh
      exact hh.imp (fun h1 => Oper.wp_mono h h1) id
    · rename_i hw; simp only [hw] at hh; exact h _ _ hh

theorem wpAny_of_anyZ {Q : Exit → Act → World → Prop} (hzs : ops.size = z + 1) (hb : okMasks ops (Region.before ops) = true) (hz : ∀ i, i < z → ((Region.before ops).getD z 0).testBit i = true) : ∀ (fuel : Nat) (listed : Array Bool) (a : Act) (w : World), C w → Closed ops listed → listed.size = ops.size →
    anyZ P ops C L z (wpOp P ops Q z (fun a w => Q .normal a w)) fuel listed a w → wpAny P .any ops Q (fuel + 1) listed a w := by
  intro fuel
  induction fuel with
  | zero =>
    intro listed a w hC hcl hsz h
    refine ⟨fun h0 => (anyZ_ne h h0).elim, fun i hi => ?_⟩
    by_cases hiz : i = z
    · subst hiz
      refine wpOp_mono (fun a' w' hq => ⟨?_, hq⟩) (anyZ_z h hi)
      cases hr : Region.ready .any ops (listed.setIfInBounds i true) with
      | nil => rfl
      | cons x xs =>
        have hx : x ∈ Region.ready .any ops (listed.setIfInBounds i true) := by rw [hr]; simp
        obtain ⟨h0, o, ho, _⟩ := mem_ready.1 hx
        have hlt : x < ops.size := (Array.getElem?_eq_some_iff.1 ho).1
        exfalso
        refine unlisted h0 ?_
        by_cases hxi : i = x
        · subst hxi
          have hlt' : i < listed.size := by omega
          simp [hlt']
        · rw [getD_set_ne false hxi]
          exact all_listed hb hz hcl hi (by omega)
    · exact (h.2.2 i hi hiz).elim
  | succ fuel ih =>
    intro listed a w hC hcl hsz h
    refine ⟨fun h0 => (anyZ_ne h h0).elim, fun i hi => ?_⟩
    by_cases hiz : i = z
    · subst hiz
      refine wpOp_mono (fun a' w' hq => ⟨fun _ => hq, fun x hx => ?_⟩) (anyZ_z h hi)
      obtain ⟨h0, o, ho, _⟩ := mem_ready.1 hx
      have hlt : x < ops.size := (Array.getElem?_eq_some_iff.1 ho).1
      exfalso
      refine unlisted h0 ?_
      by_cases hxi : i = x
      · subst hxi
        have hlt' : i < listed.size := by omega
        simp [hlt']
      · rw [getD_set_ne false hxi]
        exact all_listed hb hz hcl hi (by omega)
    · exact opL_wpOp hC (fun a' w' hC' h' => ih _ a' w' hC' (closed_set hcl hi) (by simpa using hsz) h') (h.2.2 i hi hiz)

theorem anyZ_first {Q : Act → World → Prop} {i : Nat} {oi : Oper} (hi : ops[i]? = some oi) (hsel : ∀ (j : Nat) (o : Oper) cs b, ops[j]? = some o → o.op ≠ .select cs b)
    {b : Array Nat} (hb : okMasks ops b = true) (hCa : ∀ w ob, C w → C (w.alloc ob)) (hiz : i < z) (hz : ∀ i, i < z → (b.getD z 0).testBit i = true) (hp : ∀ j, i < j → j < ops.size → pairOk ops b L i j = true) :
    ∀ (fuel : Nat) (listed : Array Bool) (a : Act) (w : World), C w → Closed ops listed → (∀ j, j < i → listed.getD j true = true) → i ∈ Region.ready .any ops listed →
      opL P ops C L i (anyZ P ops C L z Q fuel (listed.setIfInBounds i true)) a w → anyZ P ops C L z Q (fuel + 1) listed a w := by
  have exist : ∀ {K : Act → World → Prop} {a : Act} {w : World}, opL P ops C L i K a w → ∃ a' w', K a' w' := by
    intro K a w h
    unfold opL at h
    simp only [hi] at h
    split at h
    · unfold stepL at h
      split at h
      · obtain ⟨a', w', _, h⟩ := wp_exists h; exact ⟨a', w', h⟩
      · obtain ⟨v, _, h⟩ := h; exact ⟨_, _, h⟩
    · exact ⟨_, _, h⟩
  have notz : ∀ {listed : Array Bool}, Closed ops listed → i ∈ Region.ready .any ops listed → z ∈ Region.ready .any ops listed → False := by
    intro listed hcl hr hzr
    obtain ⟨h0, _⟩ := mem_ready.1 hr
    obtain ⟨_, o, ho, hall⟩ := mem_ready.1 hzr
    exact unlisted h0 (listed_of_mask hb hcl i z z o (Nat.le_refl _) ho hall (hz i hiz))
  intro fuel
  induction fuel with
  | zero =>
    intro listed a w hC hcl hel hr H
    refine ⟨fun h => (by rw [h] at hr; cases hr), fun h => (notz hcl hr h).elim, fun j hj hjz => ?_⟩
    by_cases hji : j = i
    · subst hji; exact H
    · obtain ⟨a', w', h0⟩ := exist H
      exact (h0.2.2 j (ready_mono hj hji) hjz).elim
  | succ fuel ih =>
    intro listed a w hC hcl hel hr H
    refine ⟨fun h => (by rw [h] at hr; cases hr), fun h => (notz hcl hr h).elim, fun j hj hjz => ?_⟩
    by_cases hji : j = i
    · subst hji; exact H
    · obtain ⟨hjun, oj, hoj, hall⟩ := mem_ready.1 hj
      obtain ⟨hiun, oi', hoi', halli⟩ := mem_ready.1 hr
      have hlt : j < ops.size := (Array.getElem?_eq_some_iff.1 hoj).1
      have contra : ∀ {k : Nat} {o : Oper}, ops[k]? = some o → listed.getD k true = false → listed.getD k false = true → False := by
        intro k o ho h1 h2
        rcases Nat.lt_or_ge k listed.size with h' | h'
        · simp [h'] at h1 h2; rw [h1] at h2; cases h2
        · simp [Array.getElem?_eq_none h'] at h2
      have hij : i < j := by
        rcases Nat.lt_or_ge j i with h | h
        · have := hel j h; rw [hjun] at this; cases this
        · omega
      have hpair := hp j hij hlt
      simp only [pairOk, Bool.or_eq_true, beq_iff_eq, hi, hoj, Bool.and_eq_true, Bool.not_eq_true'] at hpair
      have hgood : oi.apart ops oj = true ∧ ((L.contains i = false ∨ L.contains j = false) ∨ (isLoad oi = true ∧ (isLoad oj = true ∨ isAlloc oj = true))) := by
        rcases hpair with ((h | h) | h) | h
        · exact absurd h.symm hji
        · exact (contra hi hiun (listed_of_mask hb hcl i j j oj (Nat.le_refl _) hoj hall h)).elim
        · rw [hi] at hoi'
          injection hoi' with hoi'
          subst hoi'
          exact (contra hoj hjun (listed_of_mask hb hcl j i i oi (Nat.le_refl _) hi halli h)).elim
        · exact h
      have H' : opL P ops C L i (opL P ops C L j (anyZ P ops C L z Q fuel ((listed.setIfInBounds i true).setIfInBounds j true))) a w :=
        opL_mono hC (fun a' w' _ hh => hh.2.2 j (ready_mono hj hji) hjz) H
      have H2 := swap hi hoj (fun cs b => hsel i oi cs b hi) (fun cs b => hsel j oj cs b hoj) hgood.1 (hgood.2.imp id fun h => ⟨h.1, h.2.imp id fun h => ⟨h, hCa⟩⟩) hC H'
      refine opL_mono hC (fun a' w' hC' h3 => ih (listed.setIfInBounds j true) a' w' hC' (closed_set hcl hj) (fun q hq => by
        by_cases hqj : j = q
        · subst hqj
          rcases Nat.lt_or_ge j listed.size with h' | h' <;> simp [h']
        · rw [getD_set_ne true hqj]; exact hel q hq) (ready_mono hr (Ne.symm hji)) ?_) H2
      rw [Array.setIfInBounds_comm _ _ hji]
      exact h3

theorem anyZ_lex {Q : Act → World → Prop} (hsel : Region.noSelect ops = true) (hb : okMasks ops (Region.before ops) = true) (hCa : ∀ w ob, C w → C (w.alloc ob)) (hzs : ops.size = z + 1) (hz : ∀ i, i < z → ((Region.before ops).getD z 0).testBit i = true)
    (hp : ∀ i, i < ops.size → ∀ j, i < j → j < ops.size → pairOk ops (Region.before ops) L i j = true) :
    ∀ (l : List Oper) (k : Nat) (listed : Array Bool) (a : Act) (w : World), C w → k + l.length = z → (∀ j x, l[j]? = some x → ops[k + j]? = some x) → Closed ops listed → listed.size = ops.size →
      (∀ j, j < ops.size → (listed.getD j false = true ↔ j < k)) → wpLex P ops C L Q k l a w → anyZ P ops C L z Q l.length listed a w
  | [], k, listed, a, w, _, hkz, _, hcl, hsz, hls, h => by
    simp only [List.length_nil, Nat.add_zero] at hkz
    subst hkz
    have hlt : k < ops.size := by omega
    have hready : k ∈ Region.ready .any ops listed := by
      refine mem_ready.2 ⟨?_, ops[k], by simp [hlt], fun e he hbd => ?_⟩
      · have h1 : ¬ listed.getD k false = true := fun h' => by have := (hls k hlt).1 h'; omega
        have hlt' : k < listed.size := by omega
        simp [hlt'] at h1 ⊢
        exact h1
      · have hm := List.all_eq_true.1 hb k (List.mem_range.2 hlt)
        simp only [hlt, getElem?_pos, Bool.and_eq_true, beq_iff_eq, List.all_eq_true, Bool.or_eq_true, Bool.not_eq_true', decide_eq_true_eq] at hm
        have hle := (hm.2 e (Array.mem_toList_iff.2 he)).resolve_left (by simp [hbd])
        exact (hls e.on (by omega)).2 hle
    refine ⟨fun h0 => (by rw [h0] at hready; cases hready), fun _ => h, fun i hi hik => ?_⟩
    obtain ⟨h0, o, ho, _⟩ := mem_ready.1 hi
    have hlt2 : i < ops.size := (Array.getElem?_eq_some_iff.1 ho).1
    exact unlisted h0 ((hls i hlt2).2 (by omega))
  | o :: l, k, listed, a, w, hC, hkz, hl, hcl, hsz, hls, h => by
    simp only [List.length_cons] at hkz
    have h0 : ops[k]? = some o := by simpa using hl 0 o rfl
    have hlt : k < ops.size := (Array.getElem?_eq_some_iff.1 h0).1
    have hready : k ∈ Region.ready .any ops listed := by
      refine mem_ready.2 ⟨?_, o, h0, fun e he hbd => ?_⟩
      · have h1 : ¬ listed.getD k false = true := fun h' => by have := (hls k hlt).1 h'; omega
        have hlt' : k < listed.size := by omega
        simp [hlt'] at h1 ⊢
        exact h1
      · have hm := List.all_eq_true.1 hb k (List.mem_range.2 hlt)
        simp only [h0, Bool.and_eq_true, beq_iff_eq, List.all_eq_true, Bool.or_eq_true, Bool.not_eq_true', decide_eq_true_eq] at hm
        have hle := (hm.2 e (Array.mem_toList_iff.2 he)).resolve_left (by simp [hbd])
        exact (hls e.on (by omega)).2 hle
    refine anyZ_first h0 (Region.noSelect_spec hsel) hb hCa (by omega) hz (hp k hlt) l.length listed a w hC hcl (fun j hj => by
      have h1 := (hls j (by omega)).2 hj
      rcases Nat.lt_or_ge j listed.size with h' | h'
      · simp [h'] at h1 ⊢; exact h1
      · simp [h']) hready ?_
    have hst : opL P ops C L k (wpLex P ops C L Q (k + 1) l) a w := by unfold opL; simp only [h0]; exact h
    refine opL_mono hC (fun a' w' hC' h' => anyZ_lex hsel hb hCa hzs hz hp l (k + 1) _ a' w' hC' (by omega) (fun j x hx => by have := hl (j + 1) x (by simpa using hx); simpa [Nat.add_assoc, Nat.add_comm 1 j] using this)
      (closed_set hcl hready) (by simpa using hsz) (fun j hj => ?_) h') hst
    by_cases hjk : k = j
    · subst hjk
      have hlt' : k < listed.size := by omega
      simp [hlt']
    · rw [getD_set_ne false hjk, hls j hj]; omega

theorem wpLex_of_wpZ {Q : Act → World → Prop} {S : List Nat} {full : List Oper} (hfullops : ops = full.toArray) (hsel : Region.noSelect ops = true) (hS : stableOk ops S = true) : ∀ (l : List Oper) (k : Nat) (a : Act) (w : World), C w →
    (∀ j x, l[j]? = some x → ops[k + j]? = some x) → stableB ops l = true →
    wpC P ops C (fun a w => shapesOk P ops full a = true ∧ stays P ops C S a ∧ Q a w) l a w →
    (∀ o ∈ l, ∀ d, o.dst = some d → d < a.tmps.size) → wpLex P ops C (loudS P S full) Q k l a w
  | [], _, _, _, _, _, _, h, _ => (wpC_end h).2.2
  | o :: l, k, a, w, hC, hl, hst, h, hd => by
    have hk0 : ops[k]? = some o := by simpa using hl 0 o rfl
    have hmem : ∀ o' ∈ o :: l, o' ∈ full := fun o' ho' => by
      obtain ⟨j, hj⟩ := List.getElem?_of_mem ho'
      have hj := hl j o' hj
      rw [hfullops] at hj
      simp only [List.getElem?_toArray] at hj
      exact List.mem_of_getElem? hj
    have hsz : ∀ (d : Option Tmp) (v : Value), (a.put d v).tmps.size = a.tmps.size := fun d v => by cases d <;> simp [Act.put]
    have rest : ∀ a' w', C w' → a'.tmps.size = a.tmps.size → wpC P ops C (fun a w => shapesOk P ops full a = true ∧ stays P ops C S a ∧ Q a w) l a' w' → wpLex P ops C (loudS P S full) Q (k + 1) l a' w' := fun a' w' hC' hsz' h' =>
      wpLex_of_wpZ hfullops hsel hS l (k + 1) a' w' hC' (fun j x hx => by have := hl (j + 1) x (by simpa using hx); simpa [Nat.add_assoc, Nat.add_comm 1 j] using this)
        (by simp only [stableB, Bool.and_eq_true] at hst; exact hst.2) h' (fun o' ho' d hd' => by rw [hsz']; exact hd o' (by simp [ho']) d hd')
    have h1 := wpC_cons h
    have hL : (loudS P S full).contains k = true ↔ (quietKind P o = false ∧ S.contains k = false) := by
      have h0 : full[k]? = some o := by rw [hfullops] at hk0; simpa using hk0
      have hm := mem_loudOf (P := P) full 0 k o h0
      rw [Nat.zero_add] at hm
      unfold loudS
      rw [List.contains_iff_mem, List.mem_filter, ← List.contains_iff_mem, hm]
      simp
    unfold wpLex
    split
    · rename_i hw
      rw [if_pos hw] at h1
      unfold stepL
      split
      · have h2 := wp_after h1
        refine wp_monoQ (fun a' w' hh => ⟨hh.2.1, rest a' w' hh.2.1 ?_ hh.2.2⟩) h2
        obtain ⟨ds, u, rfl⟩ := hh.1
        cases hdd : o.dst <;> simp [Act.put]
      · rename_i hl'
        obtain ⟨af, wf, ⟨hsh, hstay, _⟩, ht⟩ := wpC_run (o :: l) a w h
        by_cases hSk : S.contains k = true
        · -- a load of S
          have hok := List.all_eq_true.1 hS k (List.contains_iff_mem.1 hSk)
          simp only [hk0] at hok
          cases hdst : o.dst with
          | none => rw [hdst] at hok; cases hok
          | some d =>
            rw [hdst] at hok
            simp only [Bool.and_eq_true, List.all_eq_true, List.mem_range, Bool.or_eq_true, decide_eq_true_eq, Bool.not_eq_true'] at hok
            obtain ⟨hlater, hown⟩ := hok
            have hlook : ∀ t, t ∈ o.looksAt ops → af.tmps[t]? = a.tmps[t]? := fun t hm => ht t fun o' ho' hd' => by
              rcases List.mem_cons.1 ho' with rfl | ho'
              · rw [hdst] at hd'
                injection hd' with hd'
                subst hd'
                have := List.contains_iff_mem.2 hm
                rw [hown] at this
                cases this
              · obtain ⟨j, hj⟩ := List.getElem?_of_mem ho'
                have hj' : ops[k + (j + 1)]? = some o' := hl (j + 1) o' (by simpa using hj)
                have hlt : k + (j + 1) < ops.size := (Array.getElem?_eq_some_iff.1 hj').1
                have := (hlater (k + (j + 1)) hlt).resolve_left (by omega)
                rw [hj'] at this
                simp only [hd', Bool.and_eq_true, bne_iff_ne, Bool.not_eq_true'] at this
                have h3 := List.contains_iff_mem.2 hm
                rw [this.2] at h3
                cases h3
            have hso : ∀ cs b, o.op ≠ .select cs b := fun cs b => Region.noSelect_spec hsel k o cs b hk0
            have heval := same_eval hso hlook
            have hwant : Region.wanted o (yielded ops af.tmps) = true := by
              rw [(same_ends hlook).2]; exact hw
            have hval := hstay k (List.contains_iff_mem.1 hSk) o hk0 hwant
            rw [heval, hdst] at hval
            simp only [Option.map_some, Option.getD_some] at hval
            -- the value that the step put there is the one that stays
            unfold same
            refine ⟨af.tmps.getD d undef, hval, ?_⟩
            have hh := gives_back (hval w hC) h1
            exact rest _ _ hC (hsz _ _) hh.2
        · have hSk' : S.contains k = false := by simpa using hSk
          have hq : quietKind P o = true := by
            cases hb : quietKind P o
            · exact absurd (hL.2 ⟨hb, hSk'⟩) hl'
            · rfl
          have hshape : quietAt o a.eval = true := by
            cases hlk : looks o
            · exact quietAt_of_not o _ hlk
            · simp only [stableB, hlk, Bool.not_true, Bool.false_or, Bool.and_eq_true] at hst
              have hall := List.all_eq_true.1 hst.1
              obtain ⟨e1, e2⟩ := same_ends (ops := ops) (o := o) (a := a) (a' := af) (fun t hm => ht t fun o' ho' hd' => by
                have := hall o' ho'
                rw [hd'] at this
                simp at this
                exact this hm)
              have := List.all_eq_true.1 hsh o (hmem o (by simp))
              rw [e1, e2, hw, hq, hlk] at this
              simpa using this
          unfold same
          have hh := h1
          unfold Oper.wp at hh
          cases hr : (execOp a.eval o).run P w with
          | ok n w1 =>
            obtain ⟨v, rfl⟩ := value_of o a.eval hq hr
            rw [hr] at hh
            have hv := valDet_of (P := P) o a.eval hq hshape w v w1 hr
            have hw1 := hv w
            rw [hr] at hw1
            injection hw1 with _ hw1
            subst hw1
            exact ⟨v, fun w2 _ => .inl (hv w2), rest _ _ hh.1 (hsz _ _) hh.2⟩
          | halt x w1 => rw [hr] at hh; cases x <;> simp only [Oper.upon, noExit] at hh
    · rename_i hw
      rw [if_neg hw] at h1
      exact rest _ _ hC (hsz _ _) h1.2


def drawOkZ (P : Program) (S : List Nat) (l : List Oper) : Bool :=
  lexOk l.toArray (loudS P S l) && stableB l.toArray l.dropLast && stableOk l.toArray S && decide (0 < l.length) && ((List.range (l.length - 1)).all fun i => ((Region.before l.toArray).getD (l.length - 1) 0).testBit i)

/-- A REGION THAT DRAWS ITS ORDER AND ENDS WITH WHAT STANDS BEHIND ALL OTHERS; the loads S are not ordered against its calls, and read what the class fixes. -/
theorem wp_region_last {id : Nat} {Q : Exit → Act → World → Prop} {a : Act} {w : World} {l : List Oper} (S : List Nat) (C : World → Prop) (hm : P.follows .mixedOrders = true) (hB : drawOkZ P S l = true)
    (hC : C w.drew) (hCa : ∀ w ob, C w → C (w.alloc ob)) (hd : (l.all fun o => match o.dst with | some d => decide (d < a.tmps.size) | none => true) = true)
    (h : wpC P l.toArray C (fun a w => shapesOk P l.toArray l a = true ∧ stays P l.toArray C S a ∧ wpList P l.toArray Q (l.drop (l.length - 1)) a w) l.dropLast a w.drew) : (Code.region id l.toArray true).wp P Q a w := by
  simp only [drawOkZ, Bool.and_eq_true, decide_eq_true_eq] at hB
  obtain ⟨⟨⟨⟨hB1, hB2⟩, hB3⟩, hB4⟩, hB5⟩ := hB
  simp only [lexOk, Bool.and_eq_true, List.all_eq_true, List.mem_range, Bool.or_eq_true, decide_eq_true_eq] at hB1
  obtain ⟨⟨h1, h2⟩, h3⟩ := hB1
  have hzs : l.toArray.size = (l.length - 1) + 1 := by simp; omega
  have hz : ∀ i, i < l.length - 1 → ((Region.before l.toArray).getD (l.length - 1) 0).testBit i = true := fun i hi => List.all_eq_true.1 hB5 i (List.mem_range.2 hi)
  have hpre : ∀ j x, l.dropLast[j]? = some x → l.toArray[0 + j]? = some x := fun j x hx => by
    rw [Nat.zero_add, List.getElem?_toArray]
    rw [List.getElem?_dropLast] at hx
    split at hx
    · exact hx
    · cases hx
  obtain ⟨o, ho⟩ : ∃ o, l[l.length - 1]? = some o := ⟨_, List.getElem?_eq_getElem (by omega)⟩
  have hdrop : l.drop (l.length - 1) = [o] := by
    rw [List.drop_eq_getElem_cons (by omega), List.drop_of_length_le (by omega)]
    rw [List.getElem?_eq_getElem (by omega)] at ho
    injection ho with ho
    rw [ho]
  have hQ : (fun a w => wpList P l.toArray Q (l.drop (l.length - 1)) a w) = wpOp P l.toArray Q (l.length - 1) (fun a w => Q .normal a w) := by
    funext a w
    rw [hdrop]
    unfold wpOp
    simp only [List.getElem?_toArray, ho]
    rfl
  have hQ' : ∀ a w, wpList P l.toArray Q (l.drop (l.length - 1)) a w = wpOp P l.toArray Q (l.length - 1) (fun a w => Q .normal a w) a w := fun a w => congrFun (congrFun hQ a) w
  simp only [hQ'] at h
  have hlex := wpLex_of_wpZ (full := l) rfl h1 hB3 l.dropLast 0 a w.drew hC hpre hB2 h (fun o ho d hod => by
      have := List.all_eq_true.1 hd o (List.dropLast_subset l ho)
      rw [hod] at this
      simpa using this)
  refine wp_region_any hm ?_
  have hany := anyZ_lex (P := P) (C := C) (z := l.length - 1) h1 h2 hCa hzs hz (fun i hi j hij hj => (h3 i hi j hj).resolve_left (by omega)) l.dropLast 0 (Array.replicate l.toArray.size false) a w.drew hC (by simp) hpre (by
    intro j o _ hl
    simp only [Array.getD_eq_getD_getElem?, Array.getElem?_replicate] at hl
    split at hl <;> simp at hl) (by simp) (by
    intro j hj
    simp only [Array.getD_eq_getD_getElem?, Array.getElem?_replicate]
    split <;> simp) hlex
  have e : l.toArray.size = l.dropLast.length + 1 := by simp; omega
  rw [e] at hany ⊢
  refine wpAny_of_anyZ (C := C) (L := loudS P S l) (z := l.length - 1) hzs h2 hz _ _ a _ hC ?_ ?_ ?_
  · intro j o _ hl
    simp only [Array.getD_eq_getD_getElem?, Array.getElem?_replicate] at hl
    split at hl <;> simp at hl
  · simp; omega
  · exact hany
end
end Go.Sk
