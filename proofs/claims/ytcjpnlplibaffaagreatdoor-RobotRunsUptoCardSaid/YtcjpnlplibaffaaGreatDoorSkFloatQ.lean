/- Regions that draw their order, walked along a list of numbers; one making of memory may stand anywhere among the calls: a walk for each of its places. -/
import Derived.Test.YtcjpnlplibaffaaGreatDoorSkCalmQ
set_option linter.all false
namespace Go.Sk
open Go

section
variable {P : Program} {ops : Array Oper} {C : World → Prop} {L : List Nat}

theorem anyG_firstI {Q : Act → World → Prop} {i : Nat} {oi : Oper} (hi : ops[i]? = some oi) (hsel : ∀ (j : Nat) (o : Oper) cs b, ops[j]? = some o → o.op ≠ .select cs b)
    {b : Array Nat} (hb : okMasks ops b = true) (hQ : Grown Q) :
    ∀ (fuel : Nat) (listed : Array Bool) (a : Act) (w : World), C w → Closed ops listed → (∀ j, j < ops.size → listed.getD j true = false → j ≠ i → pairOkG ops b L i j = true) → i ∈ Region.ready .any ops listed →
      opG P ops C L i (anyG P ops C L Q fuel (listed.setIfInBounds i true)) a w → anyG P ops C L Q (fuel + 1) listed a w := by
  have exist : ∀ {K : Act → World → Prop} {a : Act} {w : World}, C w → opG P ops C L i K a w → ∃ a' w', K a' w' := by
    intro K a w hC h
    have h := h w (Mod.refl _ _) hC
    unfold opB at h
    simp only [hi] at h
    split at h
    · unfold stepC at h
      split at h
      · obtain ⟨a', w', _, h⟩ := wp_exists h; exact ⟨a', w', h⟩
      · obtain ⟨v, _, h⟩ := h; exact ⟨_, _, h⟩
    · exact ⟨_, _, h⟩
  intro fuel
  induction fuel with
  | zero =>
    intro listed a w hC hcl hel hr H
    refine ⟨fun h => (by rw [h] at hr; cases hr), fun j hj => ?_⟩
    by_cases hji : j = i
    · subst hji; exact H
    · obtain ⟨a', w', h0, _⟩ := exist hC H
      have := ready_mono hj hji
      rw [h0] at this
      cases this
  | succ fuel ih =>
    intro listed a w hC hcl hel hr H
    refine ⟨fun h => (by rw [h] at hr; cases hr), fun j hj => ?_⟩
    by_cases hji : j = i
    · subst hji; exact H
    · obtain ⟨hjun, oj, hoj, hall⟩ := mem_ready.1 hj
      obtain ⟨hiun, oi', hoi', halli⟩ := mem_ready.1 hr
      have hlt : j < ops.size := (Array.getElem?_eq_some_iff.1 hoj).1
      have contra : ∀ {k : Nat} {o : Oper}, ops[k]? = some o → listed.getD k true = false → listed.getD k false = true → False := by
        intro k o ho h1 h2
        rcases Nat.lt_or_ge k listed.size with h' | h'
        · simp [h'] at h1 h2; rw [h1] at h2; cases h2
        · simp [Array.getElem?_eq_none h'] at h2
      have hpair := hel j hlt hjun hji
      simp only [pairOkG, Bool.or_eq_true, beq_iff_eq, hi, hoj, Bool.and_eq_true, Bool.not_eq_true'] at hpair
      have hgood : oi.apart ops oj = true ∧ (L.contains i = false ∨ L.contains j = false) := by
        rcases hpair with ((h | h) | h) | h
        · exact absurd h.symm hji
        · exact (contra hi hiun (listed_of_mask hb hcl i j j oj (Nat.le_refl _) hoj hall h)).elim
        · rw [hi] at hoi'
          injection hoi' with hoi'
          subst hoi'
          exact (contra hoj hjun (listed_of_mask hb hcl j i i oi (Nat.le_refl _) hi halli h)).elim
        · exact h
      have H' : opG P ops C L i (opG P ops C L j (anyG P ops C L Q fuel ((listed.setIfInBounds i true).setIfInBounds j true))) a w :=
        opG_mono (fun a' w' _ hh => hh.2 j (ready_mono hj hji)) H
      have H2 := swapG hi hoj (fun cs b => hsel i oi cs b hi) (fun cs b => hsel j oj cs b hoj) hgood.1 hgood.2 (anyG_grown hQ _ _) hC H'
      refine opG_mono (fun a' w' hC' h3 => ih (listed.setIfInBounds j true) a' w' hC' (closed_set hcl hj) (fun q hq hun hqi => hel q hq (by
        by_cases hqj : j = q
        · subst hqj
          rcases Nat.lt_or_ge j listed.size with h' | h' <;> simp [h'] at hun
        · rwa [getD_set_ne true hqj] at hun) hqi) (ready_mono hr (Ne.symm hji)) ?_) H2
      rw [Array.setIfInBounds_comm _ _ hji]
      exact h3

theorem opG_and {q : Nat} {A B : Act → World → Prop} {a : Act} {w : World} (hq : L.contains q = false) (h1 : opG P ops C L q A a w) (h2 : opG P ops C L q B a w) : opG P ops C L q (fun a w => A a w ∧ B a w) a w := by
  intro w' hm hC
  have h1 := h1 w' hm hC
  have h2 := h2 w' hm hC
  unfold opB at *
  split
  · rename_i ho; simp only [ho] at h1 h2; exact ⟨h1, h2⟩
  · rename_i o ho
    simp only [ho] at h1 h2
    split
    · rename_i hw
      simp only [hw, if_true, stepC, hq, Bool.false_eq_true, if_false] at h1 h2 ⊢
      obtain ⟨v, k1, k2⟩ := h1
      obtain ⟨v', k3, k4⟩ := h2
      have : v' = v := calm_one (k3 w' hC) (k1 w' hC)
      subst this
      exact ⟨v', k1, k2, k4⟩
    · rename_i hw; simp only [hw] at h1 h2; exact ⟨h1, h2⟩

theorem opG_exists {i : Nat} {K : Act → World → Prop} {a : Act} {w : World} (hC : C w) (h : opG P ops C L i K a w) : ∃ a' w', K a' w' := by
  have h := h w (Mod.refl _ _) hC
  unfold opB at h
  split at h
  · exact ⟨_, _, h⟩
  · split at h
    · unfold stepC at h
      split at h
      · obtain ⟨a', w', _, h⟩ := wp_exists h; exact ⟨a', w', h⟩
      · obtain ⟨v, _, h⟩ := h; exact ⟨_, _, h⟩
    · exact ⟨_, _, h⟩

/-- Two loud ones that are not ordered against each other: both may come first. -/
theorem anyG_two {Q : Act → World → Prop} {i j : Nat} {oi oj : Oper} (hi : ops[i]? = some oi) (hj : ops[j]? = some oj) (hsel : ∀ (j : Nat) (o : Oper) cs b, ops[j]? = some o → o.op ≠ .select cs b)
    {b : Array Nat} (hb : okMasks ops b = true) (hQ : Grown Q) (li : L.contains i = true) (lj : L.contains j = true) (hij : i ≠ j) :
    ∀ (fuel : Nat) (listed : Array Bool) (a : Act) (w : World), C w → Closed ops listed → (∀ q, q < ops.size → listed.getD q true = false → q ≠ i → q ≠ j → (b.getD q 0).testBit i = true ∨ (pairOkG ops b L i q = true ∧ pairOkG ops b L j q = true)) →
      i ∈ Region.ready .any ops listed → j ∈ Region.ready .any ops listed →
      opG P ops C L i (anyG P ops C L Q fuel (listed.setIfInBounds i true)) a w → opG P ops C L j (anyG P ops C L Q fuel (listed.setIfInBounds j true)) a w → anyG P ops C L Q (fuel + 1) listed a w := by
  intro fuel
  induction fuel with
  | zero =>
    intro listed a w hC hcl hel hri hrj Hi Hj
    refine ⟨fun h => (by rw [h] at hri; cases hri), fun q hq => ?_⟩
    by_cases hqi : q = i
    · subst hqi; exact Hi
    · obtain ⟨a', w', h0, _⟩ := opG_exists hC Hi
      have := ready_mono hq hqi
      rw [h0] at this
      cases this
  | succ fuel ih =>
    intro listed a w hC hcl hel hri hrj Hi Hj
    refine ⟨fun h => (by rw [h] at hri; cases hri), fun q hq => ?_⟩
    by_cases hqi : q = i
    · subst hqi; exact Hi
    by_cases hqj : q = j
    · subst hqj; exact Hj
    obtain ⟨hqun, oq, hoq, hallq⟩ := mem_ready.1 hq
    have hlt : q < ops.size := (Array.getElem?_eq_some_iff.1 hoq).1
    have contra : ∀ {k : Nat} {o : Oper}, ops[k]? = some o → listed.getD k true = false → listed.getD k false = true → False := by
      intro k o ho h1 h2
      rcases Nat.lt_or_ge k listed.size with h' | h'
      · simp [h'] at h1 h2; rw [h1] at h2; cases h2
      · simp [Array.getElem?_eq_none h'] at h2
    have good : ∀ {k : Nat} {ok : Oper}, ops[k]? = some ok → k ∈ Region.ready .any ops listed → q ≠ k → pairOkG ops b L k q = true → ok.apart ops oq = true ∧ (L.contains k = false ∨ L.contains q = false) := by
      intro k ok hk hrk hne hpair
      obtain ⟨hkun, ok', hok', hallk⟩ := mem_ready.1 hrk
      rw [hk] at hok'
      injection hok' with hok'
      subst hok'
      simp only [pairOkG, Bool.or_eq_true, beq_iff_eq, hk, hoq, Bool.and_eq_true, Bool.not_eq_true'] at hpair
      rcases hpair with ((h | h) | h) | h
      · exact absurd h.symm hne
      · exact (contra hk hkun (listed_of_mask hb hcl k q q oq (Nat.le_refl _) hoq hallq h)).elim
      · exact (contra hoq hqun (listed_of_mask hb hcl q k k ok (Nat.le_refl _) hk hallk h)).elim
      · exact h
    obtain ⟨p1, p2⟩ := (hel q hlt hqun hqi hqj).resolve_left fun h => (contra hi (mem_ready.1 hri).1 (listed_of_mask hb hcl i q q oq (Nat.le_refl _) hoq hallq h)).elim
    have gi := good hi hri hqi p1
    have gj := good hj hrj hqj p2
    have lq : L.contains q = false := gi.2.resolve_left (by rw [li]; decide)
    have turn : ∀ {k : Nat} {ok : Oper}, ops[k]? = some ok → q ≠ k → q ∈ Region.ready .any ops listed → ok.apart ops oq = true ∧ (L.contains k = false ∨ L.contains q = false) → opG P ops C L k (anyG P ops C L Q (fuel + 1) (listed.setIfInBounds k true)) a w →
        opG P ops C L q (opG P ops C L k (anyG P ops C L Q fuel ((listed.setIfInBounds q true).setIfInBounds k true))) a w := by
      intro k ok hk hne hrq hg H
      have H' : opG P ops C L k (opG P ops C L q (anyG P ops C L Q fuel ((listed.setIfInBounds k true).setIfInBounds q true))) a w :=
        opG_mono (fun a' w' _ hh => hh.2 q (ready_mono hrq hne)) H
      have H2 := swapG hk hoq (fun cs b => hsel k ok cs b hk) (fun cs b => hsel q oq cs b hoq) hg.1 hg.2 (anyG_grown hQ _ _) hC H'
      rw [Array.setIfInBounds_comm _ _ (Ne.symm hne)] at H2
      exact H2
    have Hi2 := turn hi hqi hq gi Hi
    have Hj2 := turn hj hqj hq gj Hj
    refine opG_mono (fun a' w' hC' h => ih (listed.setIfInBounds q true) a' w' hC' (closed_set hcl hq) (fun r hr hun hri hrj => hel r hr (by
        by_cases hqr : q = r
        · subst hqr
          rcases Nat.lt_or_ge q listed.size with h' | h' <;> simp [h'] at hun
        · rwa [getD_set_ne true hqr] at hun) hri hrj) (ready_mono hri (Ne.symm hqi)) (ready_mono hrj (Ne.symm hqj)) h.1 h.2) (opG_and lq Hi2 Hj2)

/-! ### the walk along a list of numbers -/
def stepU (P : Program) (ops : Array Oper) (C : World → Prop) (S : List Nat) (i : Nat) (K : Act → World → Prop) (a : Act) (w0 : World) : Prop :=
  ∀ w, Mod none' w0 w → C w → match ops[i]? with
    | none => False
    | some o => if S.contains i then (if Region.wanted o (yielded ops a.tmps) then ∃ v, (∀ W, C W → calm P (execOp a.eval o) v W) ∧ K (a.put o.dst v) w else K (a.put o.dst undef) w)
      else wpList P ops (atEnd fun a' w' => C w' ∧ K a' w') [o] a w
def wpGI (P : Program) (ops : Array Oper) (C : World → Prop) (S : List Nat) (Q : Act → World → Prop) : List Nat → Act → World → Prop
  | [], a, w => ∀ w', Mod none' w w' → Q a w'
  | i :: is, a, w => stepU P ops C S i (wpGI P ops C S Q is) a w
/-- j may come ahead of each loud one. -/
def wpGB (P : Program) (ops : Array Oper) (C : World → Prop) (S L : List Nat) (Q : Act → World → Prop) (j : Nat) : List Nat → Act → World → Prop
  | [], a, w => ∀ w', Mod none' w w' → Q a w'
  | i :: is, a, w => if i == j then stepU P ops C S j (wpGI P ops C S Q is) a w
    else if L.contains i then stepU P ops C S i (wpGB P ops C S L Q j is) a w ∧ wpGI P ops C S Q (j :: i :: is.erase j) a w
    else stepU P ops C S i (wpGB P ops C S L Q j is) a w

theorem stepU_run {S : List Nat} {i : Nat} {K : Act → World → Prop} {a : Act} {w : World} (hC : C w) (hh : stepU P ops C S i K a w) :
    ∃ a1 w1, C w1 ∧ K a1 w1 ∧ ∀ t, (∀ o, ops[i]? = some o → o.dst ≠ some t) → a1.tmps[t]? = a.tmps[t]? := by
  have hh := hh w (Mod.refl _ _) hC
  split at hh
  · exact hh.elim
  · rename_i o ho
    have put : ∀ (a : Act) (v : Value) t, (∀ o', ops[i]? = some o' → o'.dst ≠ some t) → (a.put o.dst v).tmps[t]? = a.tmps[t]? := by
      intro a v t ht
      have ht := ht o ho
      cases hd : o.dst with
      | none => rfl
      | some d => simp [Act.put, Array.getElem?_setIfInBounds_ne (show d ≠ t from fun e => ht (by rw [hd, e]))]
    split at hh
    · split at hh
      · obtain ⟨v, _, h⟩ := hh
        exact ⟨_, _, hC, h, put a v⟩
      · exact ⟨_, _, hC, hh, put a _⟩
    · have h1 := wpList_cons hh
      split at h1
      · obtain ⟨a1, w1, ⟨ds, u, rfl⟩, hC1, h2⟩ := wp_exists (wp_after h1)
        exact ⟨_, _, hC1, h2, fun t ht => put { a with defers := ds } u t ht⟩
      · exact ⟨_, _, h1.1, h1.2, put a _⟩

theorem wpGI_run {S : List Nat} {Q : Act → World → Prop} : ∀ (is : List Nat) (a : Act) (w : World), C w → wpGI P ops C S Q is a w →
    ∃ a' w', Q a' w' ∧ ∀ t, (∀ i ∈ is, ∀ o, ops[i]? = some o → o.dst ≠ some t) → a'.tmps[t]? = a.tmps[t]?
  | [], a, w, _, h => ⟨a, w, h w (Mod.refl _ _), fun _ _ => rfl⟩
  | i :: is, a, w, hC, h => by
    obtain ⟨a1, w1, hC1, h1, he⟩ := stepU_run hC h
    obtain ⟨a', w', hq, ht⟩ := wpGI_run is a1 w1 hC1 h1
    exact ⟨a', w', hq, fun t hn => by rw [ht t (fun i' hi' => hn i' (by simp [hi'])), he t (hn i (by simp))]⟩
theorem wpGB_run {S : List Nat} {Q : Act → World → Prop} {j : Nat} : ∀ (is : List Nat) (a : Act) (w : World), C w → wpGB P ops C S L Q j is a w →
    ∃ a' w', Q a' w' ∧ ∀ t, (∀ i ∈ is, ∀ o, ops[i]? = some o → o.dst ≠ some t) → a'.tmps[t]? = a.tmps[t]?
  | [], a, w, _, h => ⟨a, w, h w (Mod.refl _ _), fun _ _ => rfl⟩
  | i :: is, a, w, hC, h => by
    unfold wpGB at h
    have fin : stepU P ops C S i (wpGB P ops C S L Q j is) a w → ∃ a' w', Q a' w' ∧ ∀ t, (∀ i' ∈ i :: is, ∀ o, ops[i']? = some o → o.dst ≠ some t) → a'.tmps[t]? = a.tmps[t]? := fun h => by
      obtain ⟨a1, w1, hC1, h1, he⟩ := stepU_run hC h
      obtain ⟨a', w', hq, ht⟩ := wpGB_run is a1 w1 hC1 h1
      exact ⟨a', w', hq, fun t hn => by rw [ht t (fun i' hi' => hn i' (by simp [hi'])), he t (hn i (by simp))]⟩
    split at h
    · rename_i e
      obtain rfl := beq_iff_eq.1 e
      exact wpGI_run (i :: is) a w hC h
    · split at h
      · exact fin h.1
      · exact fin h

/-- What an operation looks at is not written by it or by those behind it. -/
def lookB (ops : Array Oper) (i : Nat) (is : List Nat) : Bool :=
  match ops[i]? with
  | some o => !looks o || (i :: is).all fun q => match ops[q]? with
    | some oq => (match oq.dst with | some d => !(o.looksAt ops).contains d | none => true)
    | none => true
  | none => false
def okI (ops : Array Oper) (L : List Nat) (listed : Array Bool) : List Nat → Bool
  | [] => true
  | i :: is => (Region.ready .any ops listed).contains i && !is.contains i && lookB ops i is && (is.all fun q => pairOkG ops (Region.before ops) L i q) && okI ops L (listed.setIfInBounds i true) is
def okB (ops : Array Oper) (L : List Nat) (j : Nat) (listed : Array Bool) : List Nat → Bool
  | [] => true
  | i :: is => (Region.ready .any ops listed).contains i && !is.contains i && lookB ops i is &&
    (if i == j then (is.all fun q => pairOkG ops (Region.before ops) L i q) && okI ops L (listed.setIfInBounds i true) is
     else if L.contains i then (Region.ready .any ops listed).contains j && L.contains j && is.contains j && (is.all fun q => q == j || (((Region.before ops).getD q 0).testBit i || (pairOkG ops (Region.before ops) L i q && pairOkG ops (Region.before ops) L j q))) &&
       okB ops L j (listed.setIfInBounds i true) is && okI ops L (listed.setIfInBounds j true) (i :: is.erase j) && lookB ops j (i :: is.erase j)
     else (is.all fun q => pairOkG ops (Region.before ops) L i q) && okB ops L j (listed.setIfInBounds i true) is)

/-- The rest is what is not listed. -/
def Rest (ops : Array Oper) (listed : Array Bool) (is : List Nat) : Prop := listed.size = ops.size ∧ ∀ q, q < ops.size → (listed.getD q true = false ↔ q ∈ is)
theorem Rest.next {listed : Array Bool} {i : Nat} {is : List Nat} (h : Rest ops listed (i :: is)) (hn : is.contains i = false) : Rest ops (listed.setIfInBounds i true) is := by
  refine ⟨by simpa using h.1, fun q hq => ?_⟩
  by_cases hqi : i = q
  · subst hqi
    have : i < listed.size := by rw [h.1]; exact hq
    simp only [Array.getD_eq_getD_getElem?, Array.getElem?_setIfInBounds_self_of_lt this, Option.getD_some, Bool.true_eq_false, false_iff]
    intro hm
    have := List.contains_iff_mem.2 hm
    rw [hn] at this
    cases this
  · rw [getD_set_ne true hqi, h.2 q hq, List.mem_cons]
    exact ⟨fun h => h.resolve_left (fun e => hqi e.symm), .inr⟩
theorem Rest.swap {listed : Array Bool} {i j : Nat} {is : List Nat} (h : Rest ops listed (i :: is)) (hj : is.contains j = true) : Rest ops listed (j :: i :: is.erase j) := by
  refine ⟨h.1, fun q hq => ?_⟩
  have hj := List.contains_iff_mem.1 hj
  have hp : (j :: i :: is.erase j).Perm (i :: is) := (List.Perm.swap i j _).trans (List.Perm.cons i (List.perm_cons_erase hj).symm)
  rw [h.2 q hq, hp.mem_iff]

/-- The quiet one's operands are of the shapes that it wants, for they are so at the end. -/
theorem stepU_opG {S : List Nat} {Q : Act → World → Prop} {full : List Oper} (hfullops : ops = full.toArray) {i : Nat} {is : List Nat} {K : Act → World → Prop} {a : Act} {w0 : World} (hC0 : C w0) (hlook : lookB ops i is = true)
    (hrun : ∃ a' w', (shapesOk P ops full a' = true ∧ Q a' w') ∧ ∀ t, (∀ k ∈ i :: is, ∀ o, ops[k]? = some o → o.dst ≠ some t) → a'.tmps[t]? = a.tmps[t]?)
    (h : stepU P ops C S i K a w0) : opG P ops C (loudS P S full) i K a w0 := by
  intro w hm hC
  have h := h w hm hC
  unfold opB
  split at h
  · exact h.elim
  · rename_i o hk0
    simp only [hk0]
    have hmem : o ∈ full := by
      rw [hfullops] at hk0
      simp only [List.getElem?_toArray] at hk0
      exact List.mem_of_getElem? hk0
    have hL : (loudS P S full).contains i = true ↔ (quietKind P o = false ∧ S.contains i = false) := by
      have h0 : full[i]? = some o := by rw [hfullops] at hk0; simpa using hk0
      have hm := mem_loudOf (P := P) full 0 i o h0
      rw [Nat.zero_add] at hm
      unfold loudS
      rw [List.contains_iff_mem, List.mem_filter, ← List.contains_iff_mem, hm]
      simp
    by_cases hSk : S.contains i = true
    · have hl' : (loudS P S full).contains i = false := by
        cases hb : (loudS P S full).contains i
        · rfl
        · have := (hL.1 hb).2; rw [hSk] at this; cases this
      simp only [hSk, if_true] at h
      split
      · rename_i hw
        simp only [hw, if_true] at h
        simp only [stepC, hl', Bool.false_eq_true, if_false]
        exact h
      · rename_i hw
        rw [if_neg hw] at h
        exact h
    · have hSk' : S.contains i = false := by simpa using hSk
      simp only [hSk', Bool.false_eq_true, if_false] at h
      have h1 := wpList_cons h
      split
      · rename_i hw
        rw [if_pos hw] at h1
        unfold stepC
        split
        · exact h1
        · rename_i hl'
          obtain ⟨af, wf, ⟨hsh, _⟩, ht⟩ := hrun
          have hq : quietKind P o = true := by
            cases hb : quietKind P o
            · exact absurd (hL.2 ⟨hb, hSk'⟩) hl'
            · rfl
          have hshape : quietAt o a.eval = true := by
            cases hlk : looks o
            · exact quietAt_of_not o _ hlk
            · unfold lookB at hlook
              simp only [hk0, hlk, Bool.not_true, Bool.false_or] at hlook
              have hall := List.all_eq_true.1 hlook
              obtain ⟨e1, e2⟩ := same_ends (ops := ops) (o := o) (a := a) (a' := af) (fun t hm => ht t fun k hk o' ho' hd' => by
                have := hall k hk
                rw [ho'] at this
                simp only [hd', Bool.not_eq_true'] at this
                have h3 := List.contains_iff_mem.2 hm
                rw [this] at h3
                cases h3)
              have := List.all_eq_true.1 hsh o hmem
              rw [e1, e2, hw, hq, hlk] at this
              simpa using this
          have hh := h1
          unfold Oper.wp at hh
          cases hr : (execOp a.eval o).run P w with
          | ok n w1 =>
            obtain ⟨v, rfl⟩ := value_of o a.eval hq hr
            rw [hr] at hh
            have hv := valDet_of (P := P) o a.eval hq hshape w v w1 hr
            have hw1 := hv w
            rw [hr] at hw1
            injection hw1 with _ hw1
            subst hw1
            exact ⟨v, fun w2 _ => .inl (hv w2), hh.2⟩
          | halt x w1 => rw [hr] at hh; cases x <;> simp only [Oper.upon, noExit] at hh
      · rename_i hw
        rw [if_neg hw] at h1
        exact h1.2

theorem anyG_nil {Q : Act → World → Prop} {listed : Array Bool} {a : Act} {w : World} (hr : Rest ops listed []) (hQ : Q a w) : anyG P ops C L Q 0 listed a w := by
  refine ⟨?_, hQ⟩
  cases h : Region.ready .any ops listed with
  | nil => rfl
  | cons x xs =>
    have hx : x ∈ Region.ready .any ops listed := by rw [h]; simp
    obtain ⟨h0, o, ho, _⟩ := mem_ready.1 hx
    exact absurd ((hr.2 x (Array.getElem?_eq_some_iff.1 ho).1).1 h0) (by simp)

theorem anyG_of_wpGI {S : List Nat} {Q : Act → World → Prop} {full : List Oper} (hfullops : ops = full.toArray) (hsel : Region.noSelect ops = true) (hb : okMasks ops (Region.before ops) = true) :
    ∀ (is : List Nat) (listed : Array Bool) (a : Act) (w : World), C w → Closed ops listed → Rest ops listed is → okI ops (loudS P S full) listed is = true →
      wpGI P ops C S (fun a w => shapesOk P ops full a = true ∧ Q a w) is a w → anyG P ops C (loudS P S full) (fun a w => ∀ w', Mod none' w w' → Q a w') is.length listed a w
  | [], listed, a, w, _, _, hr, _, h => anyG_nil hr fun w' hm => (h w' hm).2
  | i :: is, listed, a, w, hC, hcl, hr, hok, h => by
    simp only [okI, Bool.and_eq_true, Bool.not_eq_true', List.all_eq_true] at hok
    obtain ⟨⟨⟨⟨k1, k2⟩, k3⟩, k4⟩, k5⟩ := hok
    have hready := List.contains_iff_mem.1 k1
    obtain ⟨_, o, ho, _⟩ := mem_ready.1 hready
    have hg : Grown (fun a w => ∀ w', Mod none' w w' → Q a w') := fun a w w' hm h w2 hm2 => h w2 (hm.trans hm2)
    refine anyG_firstI ho (Region.noSelect_spec hsel) hb hg is.length listed a w hC hcl (fun q hq hun hne => k4 q (((hr.2 q hq).1 hun |> List.mem_cons.1).resolve_left hne)) hready ?_
    exact opG_mono (fun a' w' hC' h' => anyG_of_wpGI hfullops hsel hb is _ a' w' hC' (closed_set hcl hready) (hr.next k2) k5 h') (stepU_opG hfullops hC k3 (wpGI_run (i :: is) a w hC h) h)

theorem anyG_of_wpGB {S : List Nat} {Q : Act → World → Prop} {full : List Oper} (hfullops : ops = full.toArray) (hsel : Region.noSelect ops = true) (hb : okMasks ops (Region.before ops) = true) {j : Nat} :
    ∀ (is : List Nat) (listed : Array Bool) (a : Act) (w : World), C w → Closed ops listed → Rest ops listed is → okB ops (loudS P S full) j listed is = true →
      wpGB P ops C S (loudS P S full) (fun a w => shapesOk P ops full a = true ∧ Q a w) j is a w → anyG P ops C (loudS P S full) (fun a w => ∀ w', Mod none' w w' → Q a w') is.length listed a w
  | [], listed, a, w, _, _, hr, _, h => anyG_nil hr fun w' hm => (h w' hm).2
  | i :: is, listed, a, w, hC, hcl, hr, hok, h => by
    have hg : Grown (fun a w => ∀ w', Mod none' w w' → Q a w') := fun a w w' hm h w2 hm2 => h w2 (hm.trans hm2)
    have hrun := wpGB_run (i :: is) a w hC h
    simp only [okB, Bool.and_eq_true, Bool.not_eq_true'] at hok
    obtain ⟨⟨⟨k1, k2⟩, k3⟩, k4⟩ := hok
    have hready := List.contains_iff_mem.1 k1
    obtain ⟨_, o, ho, _⟩ := mem_ready.1 hready
    unfold wpGB at h
    by_cases hij : i = j
    · subst hij
      simp only [beq_self_eq_true, if_true] at h
      simp only [beq_self_eq_true, if_true, Bool.and_eq_true, List.all_eq_true] at k4
      refine anyG_firstI ho (Region.noSelect_spec hsel) hb hg is.length listed a w hC hcl (fun q hq hun hne => k4.1 q (((hr.2 q hq).1 hun |> List.mem_cons.1).resolve_left hne)) hready ?_
      exact opG_mono (fun a' w' hC' h' => anyG_of_wpGI hfullops hsel hb is _ a' w' hC' (closed_set hcl hready) (hr.next k2) k4.2 h') (stepU_opG hfullops hC k3 hrun h)
    · have hne : (i == j) = false := beq_eq_false_iff_ne.2 hij
      simp only [hne, Bool.false_eq_true, if_false] at h k4
      by_cases hl : (loudS P S full).contains i = true
      · simp only [hl, if_true, Bool.and_eq_true, List.all_eq_true, Bool.or_eq_true, beq_iff_eq] at h k4
        obtain ⟨⟨⟨⟨⟨⟨k5, k6⟩, k7⟩, k8⟩, k9⟩, k10⟩, k11⟩ := k4
        have hreadyj := List.contains_iff_mem.1 k5
        obtain ⟨_, oj, hoj, _⟩ := mem_ready.1 hreadyj
        have hlen : (i :: is.erase j).length = is.length := by
          have h1 := List.length_erase_of_mem (List.contains_iff_mem.1 k7)
          have h2 := List.length_pos_of_mem (List.contains_iff_mem.1 k7)
          simp only [List.length_cons]
          omega
        refine anyG_two ho hoj (Region.noSelect_spec hsel) hb hg hl k6 hij is.length listed a w hC hcl (fun q hq hun h1 h2 => (k8 q (((hr.2 q hq).1 hun |> List.mem_cons.1).resolve_left h1)).resolve_left h2) hready hreadyj ?_ ?_
        · exact opG_mono (fun a' w' hC' h' => anyG_of_wpGB hfullops hsel hb is _ a' w' hC' (closed_set hcl hready) (hr.next k2) k9 h') (stepU_opG hfullops hC k3 hrun h.1)
        · have hs := hr.swap k7
          have hnj : (i :: is.erase j).contains j = false := by
            cases hb : (i :: is.erase j).contains j
            · rfl
            · exfalso
              have hm := List.contains_iff_mem.1 hb
              simp only [okI, Bool.and_eq_true] at k10
              have hr2 := (mem_ready.1 (List.contains_iff_mem.1 k10.1.1.1.1)).1
              rcases List.mem_cons.1 hm with e | hm
              · exact hij e.symm
              · have hnd : ∀ (l : List Nat) (m : Array Bool), okI ops (loudS P S full) m l = true → l.Nodup := by
                  intro l
                  induction l with
                  | nil => intro _ _; exact List.nodup_nil
                  | cons x l ih =>
                    intro m hm
                    simp only [okI, Bool.and_eq_true, Bool.not_eq_true'] at hm
                    refine List.nodup_cons.2 ⟨fun hx => ?_, ih _ hm.2⟩
                    have := List.contains_iff_mem.2 hx
                    rw [hm.1.1.1.2] at this
                    cases this
                have hall : ∀ (l : List Nat) (m : Array Bool), okI ops (loudS P S full) m l = true → ∀ x ∈ l, m.getD x true = false := by
                  intro l
                  induction l with
                  | nil => intro _ _ x hx; cases hx
                  | cons y l ih =>
                    intro m hm x hx
                    have hm0 := hm
                    simp only [okI, Bool.and_eq_true, Bool.not_eq_true'] at hm
                    rcases List.mem_cons.1 hx with rfl | hx
                    · exact (mem_ready.1 (List.contains_iff_mem.1 hm.1.1.1.1)).1
                    · have := ih _ hm.2 x hx
                      by_cases hyx : y = x
                      · subst hyx
                        exact absurd hx (List.nodup_cons.1 (hnd _ _ hm0)).1
                      · rwa [getD_set_ne true hyx] at this
                have hk10 : okI ops (loudS P S full) (listed.setIfInBounds j true) (i :: is.erase j) = true := by simp only [okI, Bool.and_eq_true]; exact k10
                have := hall _ _ hk10 j (List.mem_cons_of_mem _ hm)
                have hjl : j < listed.size := by rw [hr.1]; exact (Array.getElem?_eq_some_iff.1 hoj).1
                simp [hjl] at this
          have hw2 : wpGI P ops C S (fun a w => shapesOk P ops full a = true ∧ Q a w) (j :: i :: is.erase j) a w := h.2
          refine opG_mono (fun a' w' hC' h' => ?_) (stepU_opG hfullops hC k11 (wpGI_run _ a w hC hw2) hw2)
          rw [← hlen]
          exact anyG_of_wpGI hfullops hsel hb (i :: is.erase j) _ a' w' hC' (closed_set hcl hreadyj) (hs.next hnj) k10 h'
      · have hl' : (loudS P S full).contains i = false := by simpa using hl
        simp only [hl', Bool.false_eq_true, if_false, Bool.and_eq_true, List.all_eq_true] at h k4
        refine anyG_firstI ho (Region.noSelect_spec hsel) hb hg is.length listed a w hC hcl (fun q hq hun hne => k4.1 q (((hr.2 q hq).1 hun |> List.mem_cons.1).resolve_left hne)) hready ?_
        exact opG_mono (fun a' w' hC' h' => anyG_of_wpGB hfullops hsel hb is _ a' w' hC' (closed_set hcl hready) (hr.next k2) k4.2 h') (stepU_opG hfullops hC k3 hrun h)

/-- The region's check; j: what may stand anywhere. -/
def drawOkF (P : Program) (S : List Nat) (j : Nat) (l : List Oper) : Bool :=
  Region.noSelect l.toArray && okMasks l.toArray (Region.before l.toArray) && okB l.toArray (loudS P S l) j (Array.replicate l.toArray.size false) (List.range l.length)
end

section
variable {P : Program} {w0 w : World} {F : Nat → Prop} {M L : List Res}
/-- A REGION THAT DRAWS ITS ORDER; j, a making of memory, may stand anywhere; those of S answer alike where R is known; I: what holds behind it. -/
theorem wp_region_floatK {id : Nat} {Q : Exit → Act → World → Prop} {a : Act} {l : List Oper} (hK : Know w0 w F M L) (j : Nat) (S : List Nat) (R : List Res) (is Lo : List Nat) (I : Act → Act → World → Prop) (hm : P.follows .mixedOrders = true) (hB : drawOkF P S j l = true)
    (his : List.range l.length = is) (hLo : loudS P S l = Lo) (hC : ∀ r ∈ R, r ∈ M ++ L) (h : ∀ w', Know w0 w' F M L → wpGB P l.toArray (Cls R) S Lo (fun a' w => shapesOk P l.toArray l a' = true ∧ I a a' w) j is a w')
    (hQ : ∀ a' w, I a a' w → Q .normal a' w) : (Code.region id l.toArray true).wp P Q a w := by
  subst his hLo
  simp only [drawOkF, Bool.and_eq_true] at hB
  have hCm : ∀ w w', Cls R w → Mod none' w w' → Cls R w' := fun w w' h hm r hr => (h r hr).mod hm
  have hC0 : Cls R w.drew := fun r hr => (hK.same (Mod.drew w)).get (hC r hr)
  refine wp_region_any hm (wpAny_of_anyG (C := Cls R) (L := loudS P S l) (Q' := fun a' w => ∀ w', Mod none' w w' → I a a' w') hCm (fun a' w w' hm h w2 hm2 => h w2 (hm.trans hm2)) (fun a' w h => hQ a' w (h w (Mod.refl _ _))) _ _ _ _ hC0 ?_)
  have := anyG_of_wpGB (P := P) (C := Cls R) (S := S) (Q := fun a' w => I a a' w) (full := l) rfl hB.1.1 hB.1.2 (j := j) (List.range l.length) (Array.replicate l.toArray.size false) a w.drew hC0 (by
    intro j o _ hl
    simp only [Array.getD_eq_getD_getElem?, Array.getElem?_replicate] at hl
    split at hl <;> simp at hl) ⟨by simp, fun q hq => by
      simp only [Array.getD_eq_getD_getElem?, Array.getElem?_replicate, List.mem_range]
      have : q < l.length := by simpa using hq
      simp [this]⟩ hB.2 (h _ (hK.same (Mod.drew w)))
  simpa using this

variable {ops : Array Oper} {C : World → Prop} {S Lo : List Nat} {Q : Act → World → Prop} {K : Act → World → Prop} {i j : Nat} {is : List Nat} {o : Oper} {a : Act}
theorem wpGI_nil (h : ∀ w', Mod none' w w' → Q a w') : wpGI P ops C S Q [] a w := h
theorem wpGI_of (h : stepU P ops C S i (wpGI P ops C S Q is) a w) : wpGI P ops C S Q (i :: is) a w := h
theorem wpGB_here (hi : (i == j) = true) (h : stepU P ops C S j (wpGI P ops C S Q is) a w) : wpGB P ops C S Lo Q j (i :: is) a w := by unfold wpGB; rw [if_pos hi]; exact h
theorem wpGB_soft (hi : (i == j) = false) (hl : Lo.contains i = false) (h : stepU P ops C S i (wpGB P ops C S Lo Q j is) a w) : wpGB P ops C S Lo Q j (i :: is) a w := by
  unfold wpGB
  simp only [hi, hl, Bool.false_eq_true, if_false]
  exact h
theorem wpGB_loud (i : Nat) (is2 : List Nat) (hi : (i == j) = false) (hl : Lo.contains i = true) (he : j :: i :: is.erase j = is2) (h : stepU P ops C S i (wpGB P ops C S Lo Q j is) a w) (h2 : wpGI P ops C S Q is2 a w) : wpGB P ops C S Lo Q j (i :: is) a w := by
  subst he
  unfold wpGB
  simp only [hi, hl, Bool.false_eq_true, if_false, if_true]
  exact ⟨h, h2⟩
theorem op_of {ops : Array Oper} {i : Nat} {o : Oper} {tl : List Oper} (h : ops.toList.drop i = o :: tl) : ops[i]? = some o := by
  have := congrArg (fun l : List Oper => l[0]?) h
  simpa using this
theorem stepU_at (i : Nat) (h : stepU P ops C S i K a w) : stepU P ops C S i K a w := h
theorem stepU_of (ho : ops[i]? = some o) (hS : S.contains i = false) (h : ∀ w', Mod none' w w' → wpList P ops (atEnd fun a' w' => C w' ∧ K a' w') [o] a w') : stepU P ops C S i K a w := by
  intro w' hm _
  rw [ho]
  simp only [hS, Bool.false_eq_true, if_false]
  exact h w' hm
theorem stepU_skip (ho : ops[i]? = some o) (hS : S.contains i = true) (hw : Region.wanted o (yielded ops a.tmps) = false) (h : ∀ w', Mod none' w w' → K (a.put o.dst undef) w') : stepU P ops C S i K a w := by
  intro w' hm _
  rw [ho]
  simp only [hS, hw, Bool.false_eq_true, if_false, if_true]
  exact h w' hm
theorem stepU_call {f : FuncId} {args : Array Value} {v : Value} (ho : ops[i]? = some o) (hS : S.contains i = true) (hw : Region.wanted o (yielded ops a.tmps) = true) (hr : ∀ W, (execOp a.eval o).run P W = .ok (.enter f args) W)
    (hc : ∀ W, C W → Calls P f args W (Ret v W)) (h : ∀ w', Mod none' w w' → K (a.put o.dst v) w') : stepU P ops C S i K a w := by
  intro w' hm _
  rw [ho]
  simp only [hS, hw, if_true]
  exact ⟨v, fun W hW => .inr ⟨f, args, hr W, hc W hW⟩, h w' hm⟩
theorem stepU_val {v : Value} (ho : ops[i]? = some o) (hS : S.contains i = true) (hw : Region.wanted o (yielded ops a.tmps) = true) (hr : ∀ W, C W → (execOp a.eval o).run P W = .ok (.value v) W)
    (h : ∀ w', Mod none' w w' → K (a.put o.dst v) w') : stepU P ops C S i K a w := by
  intro w' hm _
  rw [ho]
  simp only [hS, hw, if_true]
  exact ⟨v, fun W hW => .inl (hr W hW), h w' hm⟩
theorem stepU_loadK {t : TypeId} {x : Operand} {b off : Nat} {v : Value} {R : List Res} {cs : List Value} {T : TypeId} (ho : ops[i]? = some o) (hS : S.contains i = true) (hw : Region.wanted o (yielded ops a.tmps) = true) (hop : o.op = .load t x) (hx : a.eval x = .pointer (some ⟨b, off, none⟩))
    (hs : scalarB P t = true) (hm : MemB b cs T R := by repeat (first | exact MemB.head | apply MemB.tail)) (hc : cs[off]? = some v := by rfl)
    (h : ∀ w', Mod none' w w' → K (a.put o.dst v) w') : stepU P ops (Cls R) S i K a w :=
  stepU_val ho hS hw (fun W hW => by simp only [execOp, hop, hx, Sem.run_bind, run_load hs (((hW _ hm.mem).blk.cell off).trans hc), Result.andThen_ok, Sem.run_pure]) h
theorem stepU_loadSK {t : TypeId} {x : Operand} {b n : Nat} {R : List Res} {cs : List Value} {T : TypeId} (ho : ops[i]? = some o) (hS : S.contains i = true) (hw : Region.wanted o (yielded ops a.tmps) = true) (hop : o.op = .load t x) (hx : a.eval x = .pointer (some ⟨b, 0, none⟩))
    (hs : aggB P t n = true) (hm : MemB b cs T R := by repeat (first | exact MemB.head | apply MemB.tail)) (hn : cs.length = n := by rfl)
    (h : ∀ w', Mod none' w w' → K (a.put o.dst (.agg cs.toArray)) w') : stepU P ops (Cls R) S i K a w :=
  stepU_val ho hS hw (fun W hW => by
    have hl := run_loadS (P := P) (w := W) (k := 0) hs hn (hW _ hm.mem).blk.at0
    simp only [execOp, hop, hx, Sem.run_bind, hl, Result.andThen_ok, Sem.run_pure]) h
end
attribute [irreducible] wpGI wpGB stepU
end Go.Sk
