/- A move and the way back, plain. -/
import Derived.Test.YtcjpnlplibaffaaGreatDoorSkD
set_option linter.all false
namespace Go.Sk
open Go

theorem wrap_small {x : Int} (h0 : -1000000 ≤ x) (h1 : x ≤ 1000000) : RowKit.wrap64 x = x := by unfold RowKit.wrap64; omega
theorem fits_in {c : ConfP} {p : Pose} (hn : Nums c) (h : fitsB c p = true) : 0 ≤ p.at_.x ∧ p.at_.x < 16 ∧ 0 ≤ p.at_.y ∧ p.at_.y < 16 := by
  unfold fitsB openB at h
  simp only [Bool.and_eq_true] at h
  have h1 := inB_iff.1 h.1.1
  have := hn.w
  have := hn.h
  omega
theorem dir_bd (d : Int) : -1 ≤ dirX d ∧ dirX d ≤ 1 ∧ -1 ≤ dirY d ∧ dirY d ≤ 1 := by
  unfold dirX dirY
  omega
theorem mul_dir {n a : Int} (h0 : 0 ≤ n) (h1 : n ≤ 16) (ha : -1 ≤ a ∧ a ≤ 1) : -16 ≤ n * a ∧ n * a ≤ 16 := by
  have : a = -1 ∨ a = 0 ∨ a = 1 := by omega
  rcases this with rfl | rfl | rfl <;> omega
/-- The other way. -/
def backD (d : Int) : Int := (d + 2) % 4
theorem backD_dir {d : Int} (h : 0 ≤ d ∧ d ≤ 3) : dirX (backD d) = - dirX d ∧ dirY (backD d) = - dirY d ∧ 0 ≤ backD d ∧ backD d ≤ 3 := by
  have : d = 0 ∨ d = 1 ∨ d = 2 ∨ d = 3 := by omega
  rcases this with rfl | rfl | rfl | rfl <;> decide
theorem shift_back {p : Pose} {d n k : Int} (hp : 0 ≤ p.at_.x ∧ p.at_.x < 16 ∧ 0 ≤ p.at_.y ∧ p.at_.y < 16) (hd : 0 ≤ d ∧ d ≤ 3) (hn : 0 ≤ n ∧ n ≤ 16) (hk : 0 ≤ k ∧ k ≤ n) :
    shiftP (shiftP p d n) (backD d) k = shiftP p d (n - k) := by
  obtain ⟨e1, e2, _, _⟩ := backD_dir hd
  obtain ⟨b1, b2, b3, b4⟩ := dir_bd d
  have m1 := mul_dir hn.1 hn.2 ⟨b1, b2⟩
  have m2 := mul_dir hn.1 hn.2 ⟨b3, b4⟩
  have m3 := mul_dir hk.1 (by omega) ⟨b1, b2⟩
  have m4 := mul_dir hk.1 (by omega) ⟨b3, b4⟩
  have s1 : (n - k) * dirX d = n * dirX d - k * dirX d := Int.sub_mul ..
  have s2 : (n - k) * dirY d = n * dirY d - k * dirY d := Int.sub_mul ..
  have x1 : k * dirX (backD d) = - (k * dirX d) := by rw [e1, Int.mul_neg]
  have x2 : k * dirY (backD d) = - (k * dirY d) := by rw [e2, Int.mul_neg]
  unfold shiftP
  simp only [x1, x2, s1, s2]
  generalize n * dirX d = A at *
  generalize n * dirY d = B at *
  generalize k * dirX d = E at *
  generalize k * dirY d = G at *
  rw [wrap_small (show -1000000 ≤ p.at_.x + A by omega) (by omega), wrap_small (show -1000000 ≤ p.at_.y + B by omega) (by omega)]
  rw [show p.at_.x + A + -E = p.at_.x + (A - E) by omega, show p.at_.y + B + -G = p.at_.y + (B - G) by omega]
theorem shift_none {p : Pose} (hp : 0 ≤ p.at_.x ∧ p.at_.x < 16 ∧ 0 ≤ p.at_.y ∧ p.at_.y < 16) (d : Int) : shiftP p d 0 = p := by
  obtain ⟨⟨x, y⟩, dn⟩ := p
  simp only at hp
  unfold shiftP
  simp only [Int.zero_mul, Int.add_zero]
  rw [wrap_small (by omega) (by omega), wrap_small (by omega) (by omega)]

/-- The way back. -/
def backM (m : Move) (e : Int) : Move := { m with src := m.dst, dst := m.src, dir := if m.kind = 1 then backD m.dir else m.dir, at_ := 5, fin := e }
theorem back_legal {c : ConfP} {m : Move} {e : Int} (hn : Nums c) (h : legalP c m = true) : legalP c (backM m e) = true := by
  have h0 := h
  unfold legalP at h
  simp only [Bool.and_eq_true] at h
  obtain ⟨hf, h⟩ := h
  have hin := fits_in hn hf
  unfold legalP backM
  by_cases k1 : m.kind = 1
  · rw [if_pos k1] at h
    simp only [Bool.and_eq_true, decide_eq_true_eq] at h
    obtain ⟨⟨⟨a1, a2⟩, a3⟩, a4⟩ := h
    have hw : ∀ t : Nat, t < m.n.toNat → fitsB c (shiftP m.src m.dir ((t : Int) + 1)) = true := fun t ht => List.all_eq_true.1 a4 t (List.mem_range.2 ht)
    have hall : ∀ k : Int, 0 ≤ k → k ≤ m.n → fitsB c (shiftP m.src m.dir k) = true := fun k h1 h2 => by
      by_cases hk : k = 0
      · rw [hk, shift_none hin]; exact hf
      · have := hw (k - 1).toNat (by omega)
        rwa [show (((k - 1).toNat : Int)) + 1 = k by omega] at this
    obtain ⟨_, _, d3, d4⟩ := backD_dir a2
    simp only [k1, if_true, Bool.and_eq_true, decide_eq_true_eq]
    refine ⟨by rw [a3]; exact hall _ (by omega) (by omega), ⟨⟨a1, d3, d4⟩, ?_⟩, ?_⟩
    · rw [a3, shift_back hin a2 (by omega) (by omega), Int.sub_self, shift_none hin]
    · unfold wayP
      rw [List.all_eq_true]
      intro t ht
      have ht := List.mem_range.1 ht
      rw [a3, shift_back hin a2 (by omega) (by omega)]
      exact hall _ (by omega) (by omega)
  · rw [if_neg k1] at h
    simp only [k1, if_false]
    by_cases k2 : m.kind = 2
    · rw [if_pos k2] at h
      simp only [Bool.and_eq_true, decide_eq_true_eq] at h
      obtain ⟨⟨⟨a1, a2⟩, a3⟩, a4⟩ := h
      have hs : ∀ x ∈ squareP m.src.at_, openB c x = true := List.all_eq_true.1 a1
      simp only [k2, if_true, Bool.and_eq_true, decide_eq_true_eq]
      refine ⟨?_, ⟨⟨by rw [a4]; exact a1, a2⟩, a3⟩, by rw [a4]; simp⟩
      rw [a4]
      unfold fitsB Pose.second
      rw [Bool.and_eq_true]
      refine ⟨hs _ (by simp [squareP]), ?_⟩
      cases m.src.down
      · exact hs _ (by simp [squareP])
      · exact hs _ (by simp [squareP])
    · rw [if_neg k2] at h
      simp only [k2, if_false]
      by_cases k3 : m.kind = 3 ∨ m.kind = 4
      · rw [if_pos k3] at h
        simp only [Bool.and_eq_true, decide_eq_true_eq] at h
        obtain ⟨⟨a1, a2⟩, a3⟩ := h
        simp only [k3, if_true, Bool.and_eq_true, decide_eq_true_eq]
        exact ⟨by rw [a3]; exact hf, ⟨a1, a2⟩, a3.symm⟩
      · rw [if_neg k3] at h; cases h
end Go.Sk
