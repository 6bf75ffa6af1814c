/- StacksTurned. -/
import Derived.Test.YtngeeilkpnihmaaGreatDoorFlQ
import Derived.Test.YtngeeilkpnihmaaGreatDoorComQ
set_option linter.all false
namespace Go.Proofs.YtngeeilkpnihmaaGreatDoor
open Go Go.Sk Go.RowKit
set_option maxRecDepth 100000

theorem findIn_only {l : List StackP} {x : Cell} {bs : List Int} {b : Int} (h1 : ∀ s ∈ l, s.at_ ≠ x → b ∉ s.bins) (h2 : ∀ s ∈ l, s.at_ = x → s.bins = bs) (h3 : ∃ s ∈ l, s.at_ = x) (hb : b ∈ bs) :
    findIn l b = some (x, (bs.length : Int) - 1 - bs.idxOf b) := by
  induction l with
  | nil => obtain ⟨s, hs, _⟩ := h3; cases hs
  | cons s l ih =>
    show (if b ∈ s.bins then some (s.at_, (s.bins.length : Int) - 1 - s.bins.idxOf b) else findIn l b) = _
    by_cases hbs : b ∈ s.bins
    · have hx : s.at_ = x := Decidable.byContradiction fun h => h1 s (by simp) h hbs
      rw [if_pos hbs, hx, h2 s (by simp) hx]
    · rw [if_neg hbs]
      refine ih (fun s hs => h1 s (by simp [hs])) (fun s hs => h2 s (by simp [hs])) ?_
      obtain ⟨t, ht, hx⟩ := h3
      rcases List.mem_cons.1 ht with rfl | ht
      · exact absurd (by rw [h2 t (by simp) hx]; exact hb) hbs
      · exact ⟨t, ht, hx⟩
theorem told_has {c : ConfP} {m : SM} (hm : MayP c) {x : Cell} (ho : openB c x = true) : (⟨x, m.f x⟩ : StackP) ∈ m.told c := by
  have hi := (openB_iff.1 ho).1
  have h1 := numOf_bd hi
  have ha := area_eq hm
  obtain ⟨k, hk⟩ : ∃ k : Nat, x.y * c.w + x.x = (k : Int) := ⟨(x.y * c.w + x.x).toNat, by have : numOf c x = x.y * c.w + x.x := rfl; omega⟩
  have he : cellAt c.w k = x := cellAt_of (w := c.w) (h := c.h) hi hk
  unfold SM.told toldTo
  refine List.mem_filterMap.2 ⟨k, List.mem_range.2 (by have : numOf c x = x.y * c.w + x.x := rfl; omega), ?_⟩
  unfold tellOne
  rw [he, if_pos ho]
theorem find_only {c : ConfP} {m : SM} (hm : MayP c) {x : Cell} {b : Int} (ho : openB c x = true) (hb : b ∈ m.f x) (hn : ∀ y, y ≠ x → b ∉ m.f y) : m.find c b = some (x, ((m.f x).length : Int) - 1 - (m.f x).idxOf b) := by
  unfold SM.find
  refine findIn_only (fun s hs hx => ?_) (fun s hs hx => ?_) ⟨_, told_has hm ho, rfl⟩ hb
  · rw [(told_open s hs).2]
    exact hn _ hx
  · rw [(told_open s hs).2, hx]
/-- A bin stands in one stack. -/
theorem start_only {c : ConfP} (hm : MayP c) {y z : Cell} {b : Int} (hy : b ∈ (SM.start c).f y) (hz : b ∈ (SM.start c).f z) : y = z := by
  obtain ⟨s, hs, hsy, es⟩ := start_stack (List.ne_nil_of_mem hy)
  obtain ⟨t, ht, htz, et⟩ := start_stack (List.ne_nil_of_mem hz)
  rw [es] at hy
  rw [et] at hz
  have h1 := hm.bins1
  unfold allBins at h1
  rw [List.nodup_iff_pairwise_ne, List.pairwise_flatMap] at h1
  obtain ⟨i, hi⟩ := List.mem_iff_getElem?.1 hs
  obtain ⟨j, hj⟩ := List.mem_iff_getElem?.1 ht
  have h2 := List.pairwise_iff_getElem.1 h1.2
  obtain ⟨hil, hie⟩ := List.getElem?_eq_some_iff.1 hi
  obtain ⟨hjl, hje⟩ := List.getElem?_eq_some_iff.1 hj
  rcases Nat.lt_trichotomy i j with h | h | h
  · exact absurd rfl (h2 i j hil hjl h b (by rw [hie]; exact hy) b (by rw [hje]; exact hz))
  · subst h
    rw [hi] at hj
    injection hj with hj
    rw [← hsy, ← htz, hj]
  · exact absurd rfl (h2 j i hjl hil h b (by rw [hje]; exact hz) b (by rw [hie]; exact hy))
theorem start_at {c : ConfP} (hm : MayP c) {s : StackP} (hs : s ∈ c.stacks) : (SM.start c).f s.at_ = s.bins := by
  show binsIn c.stacks s.at_ = s.bins
  unfold binsIn
  cases hf : c.stacks.find? fun t => decide (t.at_ = s.at_) with
  | none =>
    have := List.find?_eq_none.1 hf s hs
    simp at this
  | some t =>
    have h1 : t.at_ = s.at_ := by simpa using List.find?_some hf
    have h2 := List.mem_of_find?_eq_some hf
    have h3 := hm.stacks1
    rw [List.nodup_iff_pairwise_ne, List.pairwise_map] at h3
    obtain ⟨i, hi⟩ := List.mem_iff_getElem?.1 hs
    obtain ⟨j, hj⟩ := List.mem_iff_getElem?.1 h2
    have h4 := List.pairwise_iff_getElem.1 h3
    obtain ⟨hil, hie⟩ := List.getElem?_eq_some_iff.1 hi
    obtain ⟨hjl, hje⟩ := List.getElem?_eq_some_iff.1 hj
    rcases Nat.lt_trichotomy i j with h | h | h
    · exact absurd (by rw [hie, hje, h1]) (h4 i j hil hjl h)
    · subst h
      rw [hi] at hj
      injection hj with hj
      rw [hj]; rfl
    · exact absurd (by rw [hie, hje, h1]) (h4 j i hjl hil h)
theorem start_nodup {c : ConfP} (hm : MayP c) {s : StackP} (hs : s ∈ c.stacks) : s.bins.Nodup := by
  have h1 := hm.bins1
  unfold allBins at h1
  rw [List.nodup_iff_pairwise_ne, List.pairwise_flatMap] at h1
  exact List.nodup_iff_pairwise_ne.2 (h1.1 s hs)

theorem stacked_open {c : ConfP} {x : Cell} (h : stackedB c x = true) : openB c x = true := by
  unfold stackedB at h
  simp only [Bool.and_eq_true] at h
  exact h.1.1.1
/-- k bins were brought. -/
def turnM (c : ConfP) (s : StackP) (x : Cell) (k : Nat) : SM := ⟨putF (putF (SM.start c).f s.at_ (s.bins.take (s.bins.length - k))) x (s.bins.reverse.take k), (SM.start c).ld⟩
theorem turn_zero {c : ConfP} (hm : MayP c) {s : StackP} (hs : s ∈ c.stacks) {x : Cell} (he : (SM.start c).f x = []) : turnM c s x 0 = SM.start c := by
  have : (turnM c s x 0).f = (SM.start c).f := by
    funext y
    show putF (putF _ _ _) x _ y = _
    unfold putF
    split
    · rename_i h; rw [h, he]; simp
    · split
      · rename_i h; rw [h, start_at hm hs]; simp
      · rfl
  show SM.mk (turnM c s x 0).f _ = _
  rw [this]
structure TurnOk (c : ConfP) (s : StackP) (x : Cell) : Prop where
  may : MayP c
  mem : s ∈ c.stacks
  st : stackedB c x = true
  ne : s.at_ ≠ x
  emp : (SM.start c).f x = []
theorem turn_ok {c : ConfP} {s : StackP} {x : Cell} (h : TurnOk c s x) {k : Nat} (hk : k ≤ s.bins.length) : SMOk c (turnM c s x k) ∧ ∀ y b, b ∈ (turnM c s x k).f y → 1 ≤ b := by
  have h8 := (nums_iff.1 h.may.nums).height
  have hst := h.may.stacked s h.mem
  refine ⟨⟨h.may, fun y => ?_, (start_ok h.may).robots, fun y hy => ?_⟩, fun y b hb => ?_⟩
  · show (putF (putF _ _ _) x _ y).length ≤ 1024
    unfold putF
    split
    · rw [List.length_take, List.length_reverse]; omega
    · split
      · rw [List.length_take]; omega
      · exact (start_ok h.may).short y
  · show putF (putF _ _ _) x _ y = []
    unfold putF
    rw [if_neg (fun e => by rw [e, stacked_open h.st] at hy; cases hy), if_neg (fun e => by rw [e, stacked_open hst.1] at hy; cases hy)]
    exact (start_ok h.may).closed y hy
  · change b ∈ putF (putF _ _ _) x _ y at hb
    unfold putF at hb
    have hbs : ∀ b ∈ s.bins, 1 ≤ b := fun b hb => (start_bin h.may (x := s.at_) (by rw [start_at h.may h.mem]; exact hb)).1
    split at hb
    · exact hbs b (List.mem_reverse.1 (List.mem_of_mem_take hb))
    · split at hb
      · exact hbs b (List.mem_of_mem_take hb)
      · exact (start_bin h.may hb).1
/-- One more is brought. -/
theorem turn_round {c : ConfP} {s : StackP} {x : Cell} (h : TurnOk c s x) (hr : c.robots ≠ []) {k : Nat} (hk : k < s.bins.length) :
    (turnM c s x k).liftE c 0 s.at_ = 0 ∧ s.bins[s.bins.length - 1 - k]? = some ((turnM c s x k).liftV c 0 s.at_) ∧ ((turnM c s x k).lift c 0 s.at_).dropE c 0 x = 0 ∧ ((turnM c s x k).lift c 0 s.at_).drop c 0 x = turnM c s x (k + 1) := by
  obtain ⟨ok, pos⟩ := turn_ok h (Nat.le_of_lt hk)
  have hst := h.may.stacked s h.mem
  have fs : (turnM c s x k).f s.at_ = s.bins.take (s.bins.length - k) := by
    show putF (putF _ _ _) x _ s.at_ = _
    unfold putF
    rw [if_neg h.ne, if_pos rfl]
  have fx : (turnM c s x k).f x = s.bins.reverse.take k := by
    show putF (putF _ _ _) x _ x = _
    unfold putF
    rw [if_pos rfl]
  have hl : (s.bins.take (s.bins.length - k)).length = s.bins.length - k := by rw [List.length_take]; omega
  have hne : (turnM c s x k).f s.at_ ≠ [] := by
    rw [fs]
    exact List.length_pos_iff.1 (by omega)
  obtain ⟨a1, a2, a3, a4, a5⟩ := moved_one ok rfl pos hr (stacked_open h.st) (stacked_open hst.1) h.ne hne
  have hroom : ¬ (roomP c x ≤ ((turnM c s x k).f x).length) := by
    rw [stacked_room h.st, fx, List.length_take, List.length_reverse]
    omega
  obtain ⟨a6, a7⟩ := a5 hroom
  have hv : s.bins[s.bins.length - 1 - k]? = some ((turnM c s x k).liftV c 0 s.at_) := by
    rw [a2, fs, List.getLastD_eq_getLast?, List.getLast?_eq_getElem?, hl, List.getElem?_take, if_pos (by omega), show s.bins.length - k - 1 = s.bins.length - 1 - k by omega, List.getElem?_eq_getElem (by omega)]
    rfl
  refine ⟨a1, hv, a6, ?_⟩
  rw [a7]
  have e1 : s.bins.reverse.take k ++ [((turnM c s x k).f s.at_).getLastD 0] = s.bins.reverse.take (k + 1) := by
    rw [List.take_add_one, List.getElem?_reverse hk, hv, a2]
    rfl
  rw [fx, e1, fs]
  show SM.mk (putF (putF (turnM c s x k).f _ _) _ _) _ = SM.mk (putF (putF (SM.start c).f _ _) _ _) _
  congr 1
  funext y
  unfold putF
  split
  · rfl
  · rename_i hyx
    split
    · rw [List.dropLast_eq_take, hl, List.take_take, show min (s.bins.length - k - 1) (s.bins.length - k) = s.bins.length - (k + 1) by omega]
    · rename_i hys
      show putF (putF _ _ _) x _ y = _
      unfold putF
      rw [if_neg hyx, if_neg hys]
theorem turn_end {c : ConfP} {s : StackP} {x : Cell} (h : TurnOk c s x) : (turnM c s x s.bins.length).f x = s.bins.reverse ∧ (turnM c s x s.bins.length).f s.at_ = [] := by
  refine ⟨?_, ?_⟩
  · show putF (putF _ _ _) x _ x = _
    unfold putF
    rw [if_pos rfl, List.take_of_length_le (by simp)]
  · show putF (putF _ _ _) x _ s.at_ = _
    unfold putF
    rw [if_neg h.ne, if_pos rfl, Nat.sub_self, List.take_zero]
theorem nodup_idx {l : List Int} (h : l.Nodup) {i : Nat} {b : Int} (hb : l[i]? = some b) : l.idxOf b = i := by
  refine idx_first' (fun k hk hkb => ?_) hb
  obtain ⟨h1, h2⟩ := List.getElem?_eq_some_iff.1 hb
  obtain ⟨h3, h4⟩ := List.getElem?_eq_some_iff.1 hkb
  exact absurd (h4.trans h2.symm) (List.pairwise_iff_getElem.1 (List.nodup_iff_pairwise_ne.1 h) k i h3 h1 hk)
theorem turn_find {c : ConfP} {s : StackP} {x : Cell} (h : TurnOk c s x) {i : Nat} {b : Int} (hb : s.bins.reverse[i]? = some b) : (turnM c s x s.bins.length).find c b = some (x, (s.bins.length : Int) - 1 - i) := by
  obtain ⟨e1, e2⟩ := turn_end h
  have hbm : b ∈ s.bins := List.mem_reverse.1 (List.mem_of_getElem? hb)
  rw [find_only h.may (stacked_open h.st) (by rw [e1]; exact List.mem_of_getElem? hb) (fun y hy hby => ?_), e1, List.length_reverse, nodup_idx (by rw [List.nodup_iff_pairwise_ne, List.pairwise_reverse]; exact (List.nodup_iff_pairwise_ne.1 (start_nodup h.may h.mem)).imp Ne.symm) hb]
  by_cases hys : y = s.at_
  · rw [hys, e2] at hby; cases hby
  · have : (turnM c s x s.bins.length).f y = (SM.start c).f y := by
      show putF (putF _ _ _) x _ y = _
      unfold putF
      rw [if_neg hy, if_neg hys]
    rw [this] at hby
    exact hys (start_only h.may hby (by rw [start_at h.may h.mem]; exact hbm))
end Go.Proofs.YtngeeilkpnihmaaGreatDoor
