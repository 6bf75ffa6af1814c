/- A run that is stopped on its way, plain: how long it takes until it stands; the robot on that way. -/
import Derived.Test.YtcjpnlplibaffaaGreatDoorSkBackQ
set_option linter.all false
namespace Go.Sk
open Go

theorem sumDown_mono {a : Int} (ha : 1 ≤ a) : ∀ (n : Nat) (v q : Int), q ≤ n → v < q → 0 < q → sumDown a v + 1 ≤ sumDown a q := by
  intro n
  induction n with
  | zero => intro v q h1 h2 h3; omega
  | succ n ih =>
    intro v q h1 h2 h3
    rw [sumDown_pos (by omega) h3]
    by_cases hv : 0 < v
    · rw [sumDown_pos (by omega) hv]
      by_cases hq : 0 < q - a
      · have := ih (v - a) (q - a) (by omega) (by omega) hq
        omega
      · rw [sumDown_not hq, sumDown_not (show ¬ 0 < v - a by omega)]
        omega
    · rw [sumDown_not hv]
      have := (sumDown_le (a := a) (by omega) (q - a).toNat (q - a) (by omega)).1
      omega
/-- q, and what it takes to stand behind it, is all that is summed from q on. -/
theorem brake_sum {a q : Int} (ha : 1 ≤ a) (hq : 0 < q) : q + brakeP a q = sumDown a q := by
  unfold brakeP
  rw [sumDown_pos (by omega) hq]
theorem nextDown_ge {a r q0 : Int} (h0 : 1 ≤ q0) (hb : brakeP a q0 ≤ r - q0) : ∀ (n : Nat) (q : Int), q ≤ n → q0 ≤ q → q0 ≤ nextDown a r q := by
  intro n
  induction n with
  | zero => intro q h1 h2; omega
  | succ n ih =>
    intro q h1 h2
    by_cases h : 1 < q ∧ r - q < brakeP a q
    · rw [nextDown_go h]
      by_cases hq : q0 = q
      · subst hq; omega
      · exact ih (q - 1) (by omega) (by omega)
    · rw [nextDown_end h]; exact h2
theorem nextP_le {a r s v : Int} (ha : 1 ≤ a) (hr : 1 ≤ r) (hs : 0 ≤ s) (hv : 1 ≤ v) : nextP a r s v ≤ s + a := by
  unfold nextP
  obtain ⟨g1, g2, g3⟩ := nextDown_is (a := a) (r := r) (min (min (s + a) v) r).toNat (min (min (s + a) v) r) (by omega) (by omega)
  omega
/-- From a speed of v, at most J times a, it stands behind J ticks, and one more for each unit that is left over. -/
theorem falls_len {a e : Int} (ha : 1 ≤ a) : ∀ (n : Nat) (v p J : Int), 1 ≤ v → v ≤ a * J → brakeP a v ≤ e - p → J + (e - p - brakeP a v) ≤ n →
    ((stepsP true a v e p v).length : Int) ≤ J + (e - p - brakeP a v) := by
  intro n
  induction n with
  | zero =>
    intro v p J hv hJ hb hn
    have : 1 ≤ J := by
      by_cases h : 1 ≤ J
      · exact h
      · have := Int.mul_le_mul_of_nonneg_left (show J ≤ 0 by omega) (show 0 ≤ a by omega)
        rw [Int.mul_zero] at this
        omega
    omega
  | succ n ih =>
    intro v p J hv hJ hb hn
    have hJ1 : 1 ≤ J := by
      by_cases h : 1 ≤ J
      · exact h
      · have := Int.mul_le_mul_of_nonneg_left (show J ≤ 0 by omega) (show 0 ≤ a by omega)
        rw [Int.mul_zero] at this
        omega
    by_cases hp : p < e
    · rw [stepsP_go ha (by omega) hv hp, if_pos rfl, List.length_cons]
      obtain ⟨g1, g2, g3, g4⟩ := nextP_is (a := a) (r := e - p) (s := v) (v := v) ha (by omega) (by omega) hv
      have hge : 1 ≤ v - a → v - a ≤ nextP a (e - p) v v := by
        intro h1
        unfold nextP
        have hs := brake_sum ha (show 0 < v - a by omega)
        have hb' : sumDown a (v - a) ≤ e - p := hb
        have hbn : 0 ≤ brakeP a (v - a) := (sumDown_le (a := a) (by omega) (v - a - a).toNat (v - a - a) (by omega)).1
        exact nextDown_ge h1 (by omega) (min (min (v + a) v) (e - p)).toNat _ (by omega) (by omega)
      have hqs := brake_sum ha (show 0 < nextP a (e - p) v v by omega)
      have hbv : brakeP a v = sumDown a (v - a) := rfl
      generalize nextP a (e - p) v v = q at *
      by_cases hq : q = v - a
      · have := ih q (p + q) (J - 1) g1 (by rw [Int.mul_sub, Int.mul_one]; omega) (by omega) (by rw [hq] at hqs ⊢; rw [hbv] at hn; omega)
        rw [hq] at hqs this ⊢
        push_cast
        omega
      · have hlt : v - a < q := by
          by_cases h1 : 1 ≤ v - a
          · have := hge h1; omega
          · omega
        have hm := sumDown_mono ha q.toNat (v - a) q (by omega) hlt (by omega)
        have := ih q (p + q) J g1 (by omega) (by omega) (by omega)
        push_cast
        omega
    · rw [stepsP_end hp]
      simp only [List.length_nil]
      have : (0 : Int) ≤ J + (e - p - brakeP a v) := by omega
      exact this
/-- The speed behind k + 1 ticks. -/
theorem stepsP_pace {a e v : Int} (ha : 1 ≤ a) (hv : 1 ≤ v) : ∀ (k : Nat) (p s x : Int), 0 ≤ s → (stepsP false a v e p s)[k]? = some x →
    ∃ y, (if k = 0 then some p else (stepsP false a v e p s)[k - 1]?) = some y ∧ x - y ≤ s + ((k : Int) + 1) * a := by
  intro k
  induction k with
  | zero =>
    intro p s x hs hx
    by_cases hp : p < e
    · rw [stepsP_go ha hs hv hp] at hx
      have := nextP_le (a := a) (r := e - p) (s := s) (v := v) ha (by omega) hs hv
      have hx : p + nextP a (e - p) s v = x := by simpa using hx
      refine ⟨p, rfl, ?_⟩
      have h1 : ((0 : Nat) : Int) + 1 = 1 := rfl
      rw [h1, Int.one_mul]
      omega
    · rw [stepsP_end hp] at hx; cases hx
  | succ k ih =>
    intro p s x hs hx
    by_cases hp : p < e
    · rw [stepsP_go ha hs hv hp] at hx ⊢
      have hq := nextP_le (a := a) (r := e - p) (s := s) (v := v) ha (by omega) hs hv
      have hq1 := (nextP_is (a := a) (r := e - p) (s := s) (v := v) ha (by omega) hs hv).1
      simp only [List.getElem?_cons_succ] at hx
      obtain ⟨y, h1, h2⟩ := ih _ _ x (by omega) hx
      refine ⟨y, ?_, ?_⟩
      · rw [if_neg (by omega), Nat.add_sub_cancel]
        by_cases hk : k = 0
        · subst hk
          rw [if_pos rfl] at h1
          exact h1
        · rw [if_neg hk] at h1
          obtain ⟨j, rfl⟩ : ∃ j, k = j + 1 := ⟨k - 1, by omega⟩
          rw [Nat.add_sub_cancel] at h1
          exact h1
      · have e1 : (((k + 1 : Nat) : Int) + 1) * a = ((k : Int) + 1) * a + a := by push_cast; rw [Int.add_mul ((k : Int) + 1) 1 a, Int.one_mul]
        rw [e1]
        omega
    · rw [stepsP_end hp] at hx; cases hx
theorem KinP.pace_le {k : KinP} (h : k.Ok) {n : Int} {t : Nat} (h1 : 1 ≤ t) (h2 : t ≤ (k.prof n).length) : k.pace n t ≤ k.accel * t := by
  have hn : 1 ≤ n ∧ n ≤ 16 := (KinP.mid h h1 h2).1
  obtain ⟨x, hx⟩ : ∃ x, (k.prof n)[t - 1]? = some x := ⟨_, List.getElem?_eq_getElem (by omega)⟩
  have hp : k.place n t = x := by unfold KinP.place; rw [List.getD_eq_getElem?_getD, hx]; rfl
  have hx' := hx
  rw [KinP.prof_on hn] at hx'
  obtain ⟨y, g1, g2⟩ := stepsP_pace h.a1 h.s1 (t - 1) 0 0 x (Int.le_refl _) hx'
  have hs : k.pace n t = x - y := by
    unfold KinP.pace
    rw [hp]
    by_cases ht : t = 1
    · subst ht
      rw [if_pos rfl]
      simp only [Nat.sub_self, if_true] at g1
      injection g1 with g1
      omega
    · rw [if_neg ht]
      rw [if_neg (by omega), ← KinP.prof_on hn] at g1
      unfold KinP.place
      rw [List.getD_eq_getElem?_getD, g1]
      rfl
  rw [hs, Int.mul_comm]
  have e1 : ((t - 1 : Nat) : Int) + 1 = t := by omega
  rw [e1] at g2
  omega
/-- A stopped run stands behind as many ticks as it has gone, and a unit's more. -/
theorem KinP.stop_ticks {k : KinP} (h : k.Ok) {n t : Int} : (k.stop n t).2 ≤ max 0 (t + k.unit) := by
  have hu := h.u1
  unfold KinP.stop
  split
  · show (0 : Int) ≤ _; omega
  · split
    · show (0 : Int) ≤ _; omega
    · rename_i h1 h2
      obtain ⟨g0, g1, g2, g3, g4⟩ := KinP.mid h (n := n) (t := t.toNat) (by omega) (by omega)
      obtain ⟨c1, c2, c3⟩ := KinP.cells_is h (n := n) (t := t.toNat) (by omega) (by omega)
      have hp := KinP.pace_le h (n := n) (t := t.toNat) (by omega) (by omega)
      have hc : k.cells n t.toNat * k.unit ≤ k.place n t.toNat + brakeP k.accel (k.pace n t.toNat) + k.unit - 1 := by
        unfold KinP.cells
        exact Int.ediv_mul_le _ (by omega)
      have := falls_len (e := k.cells n t.toNat * k.unit) h.a1 ((t.toNat : Int) + (k.cells n t.toNat * k.unit - k.place n t.toNat - brakeP k.accel (k.pace n t.toNat))).toNat (k.pace n t.toNat) (k.place n t.toNat) t.toNat g2 hp (by omega) (by omega)
      show ((_ : Nat) : Int) ≤ _
      omega

theorem legal_cut {c : ConfP} {m : Move} {n : Int} (h : legalP c m = true) (hk : m.kind = 1) (h1 : 1 ≤ n) (h2 : n ≤ m.n) : legalP c { m with n := n, dst := shiftP m.src m.dir n } = true := by
  obtain ⟨a1, a2, a3, a4⟩ := legal_run h hk
  unfold legalP at h ⊢
  simp only [Bool.and_eq_true] at h
  simp only [hk, if_true, Bool.and_eq_true, decide_eq_true_eq]
  refine ⟨h.1, ⟨⟨⟨h1, by omega⟩, a2⟩, trivial⟩, ?_⟩
  unfold wayP at a4 ⊢
  rw [List.all_eq_true] at a4 ⊢
  intro k hk2
  have := List.mem_range.1 hk2
  exact a4 k (List.mem_range.2 (by omega))
theorem legal_fits {c : ConfP} {m : Move} (h : legalP c m = true) : fitsB c m.src = true := by
  unfold legalP at h
  simp only [Bool.and_eq_true] at h
  exact h.1
/-- What a stop makes of a move under way: n cells less, or none; how long it takes. -/
structure CutOk (c : ConfP) (m : Move) (n : Int) (d : Pose) (ct : Bool) : Prop where
  n0 : 0 ≤ n
  n1 : n ≤ m.n
  wf : WfP d
  legal : ct = false → legalP c { m with n := n, dst := d } = true
  run : m.kind = 1 → 0 < n → legalP c { m with n := n, dst := d } = true
  none : m.kind = 1 → n = 0 → d = m.src
  same : m.kind ≠ 1 → n = m.n ∧ d = m.dst
theorem cuts_is {c : ConfP} {k : KinP} (hk : k.Ok) (hn : Nums c) {m : Move} (hl : legalP c m = true) (hs : WfP m.src) (h0 : 0 ≤ m.n) {t left : Int} (ht : 0 ≤ t) (hle : 1 ≤ left) :
    ∃ n d L ct, (⟨m, t, left, false⟩ : Going).cuts k = ⟨{ m with n := n, dst := d }, t, L, ct⟩ ∧ 1 ≤ L ∧ L ≤ t + left + k.unit ∧ CutOk c m n d ct := by
  have hu := hk.u1
  unfold Going.cuts
  by_cases hr : m.kind = 1
  · rw [if_pos ⟨hr, rfl⟩]
    obtain ⟨a1, a2, a3, a4⟩ := legal_run hl hr
    obtain ⟨s1, s2, s3, s4⟩ := KinP.stop_is hk (n := m.n) (t := t) a1.1
    have s5 := KinP.stop_ticks hk (n := m.n) (t := t)
    refine ⟨_, _, _, _, rfl, by simp only []; omega, by simp only []; omega, ⟨s1, s2, shiftP_wfP _ _ _, (fun h => by cases h), fun _ h => legal_cut hl hr (show (0 : Int) + 1 ≤ (k.stop m.n t).1 from Int.add_one_le_iff.2 h) s2, fun _ h => ?_, fun h => absurd hr h⟩⟩
    simp only at h ⊢
    rw [h]
    exact shift_none (fits_in hn (legal_fits hl)) _
  · rw [if_neg (fun h => hr h.1)]
    exact ⟨m.n, m.dst, left, false, rfl, hle, by omega, ⟨h0, Int.le_refl _, legal_dst hl hs, fun _ => hl, fun h => absurd h hr, fun h => absurd h hr, fun _ => ⟨rfl, rfl⟩⟩⟩

/-- q ticks behind the stop: delayed by d, L ticks to go at first. -/
def haltR (u : Pose) (ld e : Int) (m : Move) (t L : Int) (ct : Bool) (d q : Int) : RM := if q < d then ⟨u, ld, e, 0, some ⟨m, t, L, ct⟩, true, d - q⟩ else ⟨u, ld, e, 0, some ⟨m, t + (q - d), L - (q - d), ct⟩, true, 0⟩
theorem halt_hold {u : Pose} {ld e : Int} {m : Move} {t L d : Int} {ct : Bool} (h0 : 0 ≤ d) (h1 : d ≤ 1000) : (haltR u ld e m t L ct 0 0).hold d = haltR u ld e m t L ct d 0 := by
  unfold RM.hold haltR
  rw [if_neg (show ¬ (0 : Int) < 0 by omega)]
  by_cases hd : 0 < d
  · rw [if_pos ⟨rfl, hd⟩, if_pos hd]
    simp only [Int.sub_self, Int.sub_zero, Int.add_zero]
    congr 1
    omega
  · obtain rfl : d = 0 := by omega
    rw [if_neg (fun h => hd h.2), if_neg (by omega)]
theorem halt_tick {u : Pose} {ld e : Int} {m : Move} {t L d q : Int} {ct : Bool} (_h0 : 0 ≤ q) (h1 : q + 1 < L + d) : (haltR u ld e m t L ct d q).tick = (haltR u ld e m t L ct d (q + 1), mvZ, 0) := by
  unfold haltR
  by_cases hk : q < d
  · rw [if_pos hk]
    simp only [RM.tick]
    rw [if_pos (show 0 < d - q by omega)]
    by_cases hk2 : q + 1 < d
    · rw [if_pos hk2, show d - q - 1 = d - (q + 1) by omega]
    · rw [if_neg hk2, show d - q - 1 = 0 by omega, show q + 1 - d = 0 by omega, Int.sub_zero, Int.add_zero]
  · rw [if_neg hk, if_neg (show ¬ q + 1 < d by omega)]
    simp only [RM.tick]
    rw [if_neg (by omega), if_pos (show 0 < L - (q - d) - 1 by omega), show t + (q - d) + 1 = t + (q + 1 - d) by omega, show L - (q - d) - 1 = L - (q + 1 - d) by omega]
theorem halt_done {u : Pose} {ld e : Int} {m : Move} {t L d q : Int} {ct : Bool} (_h0 : 0 ≤ d) (hL : 1 ≤ L) (h1 : q + 1 = L + d) : (haltR u ld e m t L ct d q).tick = (⟨m.dst, ld, e, 0, none, false, 0⟩, m, 2) := by
  unfold haltR
  rw [if_neg (show ¬ q < d by omega)]
  simp only [RM.tick]
  rw [if_neg (by omega), if_neg (by omega), if_pos trivial]
theorem halt_ok {c : ConfP} {m : Move} {ld e n : Int} {dd : Pose} {t L d q : Int} {ct : Bool} (hu : WfP m.src) (hc : CutOk c m n dd ct) (he : 0 ≤ e) (ht : 0 ≤ t ∧ t ≤ 20000) (hL : 1 ≤ L ∧ L ≤ 20000) (hd : 0 ≤ d ∧ d ≤ 20000) (hq : 0 ≤ q ∧ q < L + d) : RMOk c (haltR m.src ld e { m with n := n, dst := dd } t L ct d q) 100000 := by
  unfold haltR
  split
  · exact ⟨⟨Int.le_refl _, by simp⟩, he, by simp only []; omega, hu, (fun v hv => by
      injection hv with hv; subst hv
      exact ⟨by simp only []; omega, by simp only []; omega, by simp only []; omega, by simp only []; omega, hc.legal, hu, hc.wf⟩), (fun h => by cases h), fun _ => rfl⟩
  · exact ⟨⟨Int.le_refl _, by simp⟩, he, by simp only []; omega, hu, (fun v hv => by
      injection hv with hv; subst hv
      exact ⟨by simp only []; omega, by simp only []; omega, by simp only []; omega, by simp only []; omega, hc.legal, hu, hc.wf⟩), (fun h => by cases h), fun _ => rfl⟩
end Go.Sk
