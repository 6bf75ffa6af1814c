/- StacksBack. -/
import Derived.Test.YtngeeilkpnihmaaGreatDoorLwQ
set_option linter.all false
namespace Go.Proofs.YtngeeilkpnihmaaGreatDoor
open Go Go.Sk Go.RowKit
set_option maxRecDepth 100000

theorem start_ld {c : ConfP} (i : Nat) : (SM.start c).ld.getD i 0 = 0 := by
  show (List.replicate c.robots.length (0 : Int)).getD i 0 = 0
  rw [List.getD_eq_getElem?_getD, List.getElem?_replicate]
  split <;> rfl
theorem start_drop {c : ConfP} (i : Int) (x : Cell) : (SM.start c).dropE c i x ≠ 0 := by
  unfold SM.dropE dropE
  split
  · rw [if_pos (start_ld _)]; omega
  · omega
theorem start_load {c : ConfP} (i : Int) : (SM.start c).load i = 0 := by
  unfold SM.load
  split
  · exact start_ld _
  · rfl
/-- What stands anywhere at the start: a stack's bins. -/
theorem start_stack {c : ConfP} {x : Cell} (h : (SM.start c).f x ≠ []) : ∃ s ∈ c.stacks, s.at_ = x ∧ (SM.start c).f x = s.bins := by
  change binsIn c.stacks x ≠ [] at h
  show ∃ s ∈ c.stacks, s.at_ = x ∧ binsIn c.stacks x = s.bins
  unfold binsIn at h ⊢
  cases hf : c.stacks.find? fun s => decide (s.at_ = x) with
  | none => rw [hf] at h; exact absurd rfl h
  | some s => exact ⟨s, List.mem_of_find?_eq_some hf, by simpa using List.find?_some hf, rfl⟩
theorem stacked_room {c : ConfP} {x : Cell} (h : stackedB c x = true) : roomP c x = c.height := by
  have h0 := h
  unfold stackedB at h
  simp only [Bool.and_eq_true, decide_eq_true_eq] at h
  have hp : x ∉ c.ports := by
    intro hp
    have := h.1.1.2
    unfold portOf at this
    rw [if_pos hp] at this
    omega
  unfold roomP
  rw [if_neg hp, if_pos h0]
theorem lift_zero {c : ConfP} {m : SM} {i : Int} {x : Cell} (h : m.liftE c i x = 0) : openB c x = true ∧ 0 ≤ i ∧ i < m.ld.length ∧ m.ld.getD i.toNat 0 = 0 ∧ m.f x ≠ [] := by
  unfold SM.liftE liftE at h
  by_cases hc : openB c x = true ∧ 0 ≤ i ∧ i < m.ld.length
  · rw [if_pos hc] at h
    split at h
    · omega
    · split at h
      · omega
      · rename_i h1 h2
        exact ⟨hc.1, hc.2.1, hc.2.2, Decidable.not_not.1 h1, h2⟩
  · rw [if_neg hc] at h; omega
theorem lift_at {c : ConfP} {m : SM} {i : Int} {x : Cell} (h : m.liftE c i x = 0) : m.lift c i x = ⟨putF m.f x (m.f x).dropLast, m.ld.set i.toNat ((m.f x).getLastD 0)⟩ := by
  unfold SM.lift
  rw [if_pos h]
theorem lift_not {c : ConfP} {m : SM} {i : Int} {x : Cell} (h : m.liftE c i x ≠ 0) : m.lift c i x = m ∧ m.liftV c i x = 0 := by
  unfold SM.lift SM.liftV
  rw [if_neg h, if_neg h]
  exact ⟨rfl, rfl⟩
theorem drop_not {c : ConfP} {m : SM} {i : Int} {x : Cell} (h : m.dropE c i x ≠ 0) : m.drop c i x = m := by
  unfold SM.drop
  rw [if_neg h]
theorem drop_at {c : ConfP} {m : SM} {i : Int} {x : Cell} (h : m.dropE c i x = 0) : m.drop c i x = ⟨putF m.f x (m.f x ++ [m.ld.getD i.toNat 0]), m.ld.set i.toNat 0⟩ := by
  unfold SM.drop
  rw [if_pos h]
theorem getLastD_mem {l : List Int} (h : l ≠ []) : l.getLastD 0 ∈ l := by
  rw [List.getLastD_eq_getLast?, List.getLast?_eq_some_getLast h]
  exact List.getLast_mem h
theorem snoc_last {l : List Int} (h : l ≠ []) : l.dropLast ++ [l.getLastD 0] = l := by
  rw [List.getLastD_eq_getLast?, List.getLast?_eq_some_getLast h]
  exact List.dropLast_concat_getLast h
theorem start_bin {c : ConfP} (hm : MayP c) {x : Cell} {b : Int} (h : b ∈ (SM.start c).f x) : 1 ≤ b ∧ b ≤ 1000000000 := by
  obtain ⟨s, hs, _, he⟩ := start_stack (List.ne_nil_of_mem h)
  rw [he] at h
  exact Go.Sk.within_iff.1 (hm.bins b (List.mem_flatMap.2 ⟨s, hs, h⟩))
/-- Lifted and dropped at its place again: as it was. -/
theorem back {c : ConfP} (hm : MayP c) {i : Int} {x : Cell} (h : (SM.start c).liftE c i x = 0) :
    (∀ y, ((SM.start c).lift c i x).liftE c i y ≠ 0) ∧ ((SM.start c).lift c i x).dropE c i x = 0 ∧ ((SM.start c).lift c i x).drop c i x = SM.start c := by
  obtain ⟨h1, h2, h3, h4, h5⟩ := lift_zero h
  have e := lift_at h
  obtain ⟨s, hs, hx, he⟩ := start_stack h5
  have hst := hm.stacked s hs
  rw [hx] at hst
  have hb := start_bin hm (getLastD_mem h5)
  obtain ⟨b, hbb⟩ : ∃ b, b = ((SM.start c).f x).getLastD 0 := ⟨_, rfl⟩
  have hg : ((SM.start c).ld.set i.toNat b).getD i.toNat 0 = b := by
    rw [List.getD_eq_getElem?_getD, List.getElem?_set, if_pos rfl, if_pos (by omega)]
    rfl
  rw [← hbb] at hb e
  have hd : ((SM.start c).lift c i x).dropE c i x = 0 := by
    rw [e]
    unfold SM.dropE dropE
    simp only [List.length_set]
    rw [if_pos ⟨h1, h2, h3⟩, hg, if_neg (by omega)]
    have : (putF (SM.start c).f x ((SM.start c).f x).dropLast x) = ((SM.start c).f x).dropLast := by unfold putF; rw [if_pos rfl]
    have hlp := List.length_pos_iff.2 h5
    rw [he] at hlp
    refine if_neg ?_
    show ¬ (roomP c x ≤ ((putF (SM.start c).f x ((SM.start c).f x).dropLast x).length : Int))
    rw [this, stacked_room hst.1, List.length_dropLast, he]
    omega
  refine ⟨fun y => ?_, hd, ?_⟩
  · rw [e]
    unfold SM.liftE liftE
    simp only [List.length_set]
    split
    · rw [hg, if_pos (by omega)]; omega
    · omega
  · rw [drop_at hd, e]
    simp only
    rw [hg]
    have e1 : putF (putF (SM.start c).f x ((SM.start c).f x).dropLast) x (putF (SM.start c).f x ((SM.start c).f x).dropLast x ++ [b]) = (SM.start c).f := by
      funext y
      unfold putF
      by_cases hy : y = x
      · subst hy
        rw [if_pos rfl, if_pos rfl, hbb]
        exact snoc_last h5
      · rw [if_neg hy, if_neg hy]
    rw [e1, List.set_set]
    have e2 : (SM.start c).ld.set i.toNat 0 = (SM.start c).ld := by
      apply List.ext_getElem?
      intro k
      rw [List.getElem?_set]
      split
      · rename_i hk
        subst hk
        have hl : i.toNat < (SM.start c).ld.length := by omega
        rw [if_pos hl]
        have := start_ld (c := c) i.toNat
        rw [List.getD_eq_getElem?_getD, List.getElem?_eq_getElem hl] at this
        rw [List.getElem?_eq_getElem hl]
        exact congrArg some this.symm
      · rfl
    rw [e2]

end Go.Proofs.YtngeeilkpnihmaaGreatDoor
