/- StacksFull. -/
import Derived.Test.YtngeeilkpnihmaaGreatDoorBkQ
import Derived.Deep.LoopGhost
set_option linter.all false
namespace Go.Proofs.YtngeeilkpnihmaaGreatDoor
open Go Go.Sk Go.RowKit
set_option maxRecDepth 100000

/-- What holds while bins are brought to x. -/
structure FullInv (c : ConfP) (x : Cell) (m : SM) : Prop where
  ok : SMOk c m
  ld : m.ld = (SM.start c).ld
  room : ((m.f x).length : Int) ≤ roomP c x
  pos : ∀ y b, b ∈ m.f y → 1 ≤ b
theorem full_start {c : ConfP} (hm : MayP c) (x : Cell) : FullInv c x (SM.start c) := by
  refine ⟨start_ok hm, rfl, ?_, fun y b hb => (start_bin hm hb).1⟩
  by_cases h : (SM.start c).f x = []
  · rw [h]
    have h8 := (nums_iff.1 hm.nums).height
    unfold roomP
    split <;> (try split) <;> simp <;> omega
  · obtain ⟨s, hs, hx, he⟩ := start_stack h
    have hst := hm.stacked s hs
    rw [hx] at hst
    rw [stacked_room hst.1, he]
    exact hst.2
theorem ld_zero {c : ConfP} {m : SM} (h : m.ld = (SM.start c).ld) (i : Nat) : m.ld.getD i 0 = 0 := by rw [h]; exact start_ld i
theorem ld_pos {c : ConfP} {m : SM} (h : SMOk c m) (hr : c.robots ≠ []) : (0 : Int) < m.ld.length := by
  rw [h.robots]
  have := List.length_pos_iff.2 hr
  omega
theorem lift_yes {c : ConfP} {m : SM} {y : Cell} (ok : SMOk c m) (ld : m.ld = (SM.start c).ld) (hr : c.robots ≠ []) (hy : openB c y = true) (hh : m.f y ≠ []) : m.liftE c 0 y = 0 := by
  unfold SM.liftE liftE
  rw [if_pos ⟨hy, by omega, ld_pos ok hr⟩, if_neg (by rw [ld_zero ld]; simp), if_neg hh]
theorem ld_back {c : ConfP} {m : SM} (h : m.ld = (SM.start c).ld) (b : Int) : (m.ld.set 0 b).set 0 0 = (SM.start c).ld := by
  rw [List.set_set, h]
  apply List.ext_getElem?
  intro k
  rw [List.getElem?_set]
  split
  · rename_i hk
    subst hk
    split
    · rename_i hl
      have := start_ld (c := c) 0
      rw [List.getD_eq_getElem?_getD, List.getElem?_eq_getElem hl] at this
      rw [List.getElem?_eq_getElem hl]
      exact congrArg some this.symm
    · rename_i hl
      exact (List.getElem?_eq_none (by omega)).symm
  · rfl
/-- A bin is lifted from y; what Drop at x then does. -/
theorem moved_one {c : ConfP} {x y : Cell} {m : SM} (ok : SMOk c m) (ld : m.ld = (SM.start c).ld) (pos : ∀ y b, b ∈ m.f y → 1 ≤ b) (hr : c.robots ≠ []) (hx : openB c x = true) (hy : openB c y = true) (hne : y ≠ x) (hh : m.f y ≠ []) :
    m.liftE c 0 y = 0 ∧ m.liftV c 0 y = (m.f y).getLastD 0 ∧ (m.lift c 0 y).f x = m.f x ∧
    ((roomP c x ≤ (m.f x).length) → (m.lift c 0 y).dropE c 0 x = 2) ∧
    (¬ (roomP c x ≤ (m.f x).length) → (m.lift c 0 y).dropE c 0 x = 0 ∧ (m.lift c 0 y).drop c 0 x = ⟨putF (putF m.f y (m.f y).dropLast) x (m.f x ++ [(m.f y).getLastD 0]), (SM.start c).ld⟩) := by
  have h1 := lift_yes ok ld hr hy hh
  have e := lift_at h1
  have ev : m.liftV c 0 y = (m.f y).getLastD 0 := by unfold SM.liftV; rw [if_pos h1]
  obtain ⟨b, hb⟩ : ∃ b, b = (m.f y).getLastD 0 := ⟨_, rfl⟩
  have hb1 : 1 ≤ b := by rw [hb]; exact pos y _ (getLastD_mem hh)
  rw [← hb] at e ev ⊢
  have hf : (m.lift c 0 y).f x = m.f x := by rw [e]; show putF m.f y _ x = _; unfold putF; rw [if_neg (fun h => hne h.symm)]
  have hl := ld_pos ok hr
  have hg : (m.ld.set (0 : Int).toNat b).getD (0 : Int).toNat 0 = b := by
    rw [List.getD_eq_getElem?_getD, List.getElem?_set, if_pos rfl, if_pos (by show 0 < _; omega)]
    rfl
  have hlen : ((m.lift c 0 y).ld.length : Int) = m.ld.length := by rw [e]; simp
  have hgl : (m.lift c 0 y).ld.getD (0 : Int).toNat 0 = b := by rw [e]; exact hg
  have hE : (m.lift c 0 y).dropE c 0 x = if roomP c x ≤ (m.f x).length then 2 else 0 := by
    unfold SM.dropE dropE
    rw [if_pos ⟨hx, by omega, by rw [hlen]; exact hl⟩, hgl, if_neg (by omega), hf]
  refine ⟨h1, ev, hf, fun hr => by rw [hE, if_pos hr], fun hr => ?_⟩
  have h0 : (m.lift c 0 y).dropE c 0 x = 0 := by rw [hE, if_neg hr]
  refine ⟨h0, ?_⟩
  rw [drop_at h0, hf, hgl]
  congr 1
  · rw [e]
  · rw [e]; exact ld_back ld b
theorem full_put {c : ConfP} {x y : Cell} {m : SM} (h : FullInv c x m) (hx : openB c x = true) (hy : openB c y = true) (hne : y ≠ x) (hh : m.f y ≠ []) (hr : ¬ (roomP c x ≤ (m.f x).length)) :
    FullInv c x ⟨putF (putF m.f y (m.f y).dropLast) x (m.f x ++ [(m.f y).getLastD 0]), (SM.start c).ld⟩ := by
  have h8 := (nums_iff.1 h.ok.may.nums).height
  have hrm : roomP c x ≤ 8 := by unfold roomP; split <;> (try split) <;> omega
  refine ⟨⟨h.ok.may, fun z => ?_, by rw [← h.ok.robots, h.ld], fun z hz => ?_⟩, rfl, ?_, fun z b hb => ?_⟩
  · show (putF _ x _ z).length ≤ 1024
    unfold putF
    split
    · rw [List.length_append]; simp only [List.length_cons, List.length_nil]; omega
    · split
      · rw [List.length_dropLast]; have := h.ok.short y; omega
      · exact h.ok.short z
  · show putF _ x _ z = []
    unfold putF
    rw [if_neg (fun e => by rw [e, hx] at hz; cases hz), if_neg (fun e => by rw [e, hy] at hz; cases hz)]
    exact h.ok.closed z hz
  · show ((putF _ x _ x).length : Int) ≤ _
    unfold putF
    rw [if_pos rfl, List.length_append]
    simp only [List.length_cons, List.length_nil]
    omega
  · change b ∈ putF _ x _ z at hb
    unfold putF at hb
    split at hb
    · rcases List.mem_append.1 hb with hb | hb
      · exact h.pos x b hb
      · rw [List.mem_singleton] at hb
        rw [hb]
        exact h.pos y _ (getLastD_mem hh)
    · split at hb
      · exact h.pos y b (List.dropLast_subset _ hb)
      · exact h.pos z b hb
theorem port_iff {c : ConfP} {x : Cell} : 0 ≤ portOf c x ↔ x ∈ c.ports := by
  unfold portOf
  split
  · rename_i h; exact ⟨fun _ => h, fun _ => by omega⟩
  · rename_i h; exact ⟨fun h => by omega, fun h' => absurd h' h⟩
theorem told_open {c : ConfP} {m : SM} : ∀ s ∈ m.told c, openB c s.at_ = true ∧ s.bins = m.f s.at_ := by
  intro s hs
  unfold SM.told toldTo at hs
  obtain ⟨k, _, hk⟩ := List.mem_filterMap.1 hs
  unfold tellOne at hk
  split at hk
  · rename_i ho
    injection hk with hk
    subst hk
    exact ⟨ho, rfl⟩
  · cases hk
theorem height_open {c : ConfP} {m : SM} {x : Cell} (h : openB c x = true) : m.height c x = ((m.f x).length : Int) := by
  unfold SM.height
  rw [h]
  rfl

end Go.Proofs.YtngeeilkpnihmaaGreatDoor
