/- How robots go, plain: brake, next, the places of a run, how a stopped run ends. -/
import Derived.Test.YtcjpnlplibaffaaDoorSkRefQ
set_option linter.all false
namespace Go.Sk
open Go

/-- v, v - a, v - 2a, .. as long as they are above 0, together. -/
def sumDown (a v : Int) : Int := if 0 < v ∧ 0 < a then v + sumDown a (v - a) else 0
termination_by v.toNat
decreasing_by omega
theorem sumDown_pos {a v : Int} (ha : 0 < a) (h : 0 < v) : sumDown a v = v + sumDown a (v - a) := by rw [sumDown, if_pos ⟨h, ha⟩]
theorem sumDown_not {a v : Int} (h : ¬ 0 < v) : sumDown a v = 0 := by rw [sumDown, if_neg (fun e => h e.1)]
theorem sumDown_le {a : Int} (ha : 0 < a) : ∀ (n : Nat) (v : Int), v ≤ n → 0 ≤ sumDown a v ∧ sumDown a v ≤ n * n := by
  intro n
  induction n with
  | zero => intro v h; rw [sumDown_not (by omega)]; simp
  | succ n ih =>
    intro v h
    by_cases hv : 0 < v
    · rw [sumDown_pos ha hv]
      have := ih (v - a) (by omega)
      have e : ((n + 1 : Nat) : Int) * ((n + 1 : Nat) : Int) = n * n + (n + n + 1) := by push_cast; rw [Int.add_mul, Int.mul_add]; omega
      omega
    · rw [sumDown_not hv]
      exact ⟨Int.le_refl _, Int.mul_nonneg (by omega) (by omega)⟩
/-- How far it goes until it can stand. -/
def brakeP (a s : Int) : Int := sumDown a (s - a)
theorem brakeP_le {a s : Int} (ha : 1 ≤ a) (hs : s ≤ 1000) : 0 ≤ brakeP a s ∧ brakeP a s ≤ 1000000 := by
  have := sumDown_le (a := a) (by omega) 1000 (s - a) (by omega)
  unfold brakeP
  omega
theorem brakeP_one {a s : Int} (ha : 1 ≤ a) (h : s ≤ 1) : brakeP a s = 0 := sumDown_not (by omega)
def nextDown (a r q : Int) : Int := if 1 < q ∧ r - q < brakeP a q then nextDown a r (q - 1) else q
termination_by q.toNat
decreasing_by omega
theorem nextDown_go {a r q : Int} (h : 1 < q ∧ r - q < brakeP a q) : nextDown a r q = nextDown a r (q - 1) := by rw [nextDown, if_pos h]
theorem nextDown_end {a r q : Int} (h : ¬ (1 < q ∧ r - q < brakeP a q)) : nextDown a r q = q := by rw [nextDown, if_neg h]
theorem nextDown_is {a r : Int} : ∀ (n : Nat) (q : Int), q ≤ n → 1 ≤ q → 1 ≤ nextDown a r q ∧ nextDown a r q ≤ q ∧ (nextDown a r q = 1 ∨ brakeP a (nextDown a r q) ≤ r - nextDown a r q) := by
  intro n
  induction n with
  | zero => intro q h1 h2; omega
  | succ n ih =>
    intro q h1 h2
    by_cases h : 1 < q ∧ r - q < brakeP a q
    · rw [nextDown_go h]
      obtain ⟨g1, g2, g3⟩ := ih (q - 1) (by omega) (by omega)
      exact ⟨g1, by omega, g3⟩
    · rw [nextDown_end h]
      refine ⟨h2, Int.le_refl _, ?_⟩
      by_cases hq : q = 1
      · exact .inl hq
      · exact .inr (by
          have : ¬ (r - q < brakeP a q) := fun e => h ⟨by omega, e⟩
          omega)
/-- The next speed: r units left, the speed s, at most v. -/
def nextP (a r s v : Int) : Int := nextDown a r (min (min (s + a) v) r)
theorem nextP_is {a r s v : Int} (ha : 1 ≤ a) (hr : 1 ≤ r) (hs : 0 ≤ s) (hv : 1 ≤ v) : 1 ≤ nextP a r s v ∧ nextP a r s v ≤ v ∧ nextP a r s v ≤ r ∧ nextP a r s v + brakeP a (nextP a r s v) ≤ r := by
  unfold nextP
  obtain ⟨g1, g2, g3⟩ := nextDown_is (a := a) (r := r) (min (min (s + a) v) r).toNat (min (min (s + a) v) r) (by omega) (by omega)
  refine ⟨g1, by omega, by omega, ?_⟩
  rcases g3 with g3 | g3
  · rw [g3, brakeP_one ha (Int.le_refl _)]; omega
  · omega
/-- The places behind each tick, from a place with a speed to an end, at most v; falls: never faster. -/
def stepsP (falls : Bool) (a v end_ place speed : Int) : List Int :=
  if place < end_ ∧ 1 ≤ nextP a (end_ - place) speed v then
    (place + nextP a (end_ - place) speed v) :: stepsP falls a (if falls then nextP a (end_ - place) speed v else v) end_ (place + nextP a (end_ - place) speed v) (nextP a (end_ - place) speed v)
  else []
termination_by (end_ - place).toNat
decreasing_by omega
theorem stepsP_end {falls : Bool} {a v e p s : Int} (h : ¬ p < e) : stepsP falls a v e p s = [] := by rw [stepsP, if_neg (fun x => h x.1)]
theorem stepsP_go {falls : Bool} {a v e p s : Int} (ha : 1 ≤ a) (hs : 0 ≤ s) (hv : 1 ≤ v) (h : p < e) :
    stepsP falls a v e p s = (p + nextP a (e - p) s v) :: stepsP falls a (if falls then nextP a (e - p) s v else v) e (p + nextP a (e - p) s v) (nextP a (e - p) s v) := by
  rw [stepsP, if_pos ⟨h, (nextP_is ha (by omega) hs hv).1⟩]
/-- What holds of the places: above the start, at most the end, which is the last; each with what it takes to stand is at most the end. -/
theorem stepsP_len {falls : Bool} {a e : Int} (ha : 1 ≤ a) : ∀ (n : Nat) (v p s : Int), 0 ≤ s → 1 ≤ v → e - p ≤ n → ((stepsP falls a v e p s).length : Int) ≤ max 0 (e - p) := by
  intro n
  induction n with
  | zero =>
    intro v p s hs hv h
    rw [stepsP_end (by omega)]
    simp; omega
  | succ n ih =>
    intro v p s hs hv h
    by_cases hp : p < e
    · rw [stepsP_go ha hs hv hp]
      obtain ⟨g1, g2, g3, g4⟩ := nextP_is (a := a) (r := e - p) (s := s) (v := v) ha (by omega) hs hv
      have := ih (if falls then nextP a (e - p) s v else v) (p + nextP a (e - p) s v) (nextP a (e - p) s v) (by omega) (by split <;> omega) (by omega)
      rw [List.length_cons]
      omega
    · rw [stepsP_end hp]
      simp; omega
theorem stepsP_ne {falls : Bool} {a v e p s : Int} (ha : 1 ≤ a) (hs : 0 ≤ s) (hv : 1 ≤ v) (h : p < e) : stepsP falls a v e p s ≠ [] := by
  rw [stepsP_go ha hs hv h]; simp
theorem stepsP_last {falls : Bool} {a e : Int} (ha : 1 ≤ a) : ∀ (n : Nat) (v p s : Int), 0 ≤ s → 1 ≤ v → e - p ≤ n → p < e → (stepsP falls a v e p s).getLast? = some e := by
  intro n
  induction n with
  | zero => intro v p s hs hv h hp; omega
  | succ n ih =>
    intro v p s hs hv h hp
    rw [stepsP_go ha hs hv hp]
    obtain ⟨g1, g2, g3, g4⟩ := nextP_is (a := a) (r := e - p) (s := s) (v := v) ha (by omega) hs hv
    by_cases he : p + nextP a (e - p) s v < e
    · have h1 := ih (if falls then nextP a (e - p) s v else v) (p + nextP a (e - p) s v) (nextP a (e - p) s v) (by omega) (by split <;> omega) (by omega) he
      rw [List.getLast?_cons, h1]
      rfl
    · rw [stepsP_end he]
      have : p + nextP a (e - p) s v = e := by omega
      rw [this]
      rfl
/-- The kth place: between the one ahead of it (p itself, at first) and it lies a speed of 1 to v at most; the way to stand fits. -/
theorem stepsP_at {a e v : Int} (ha : 1 ≤ a) (hv : 1 ≤ v) : ∀ (k : Nat) (p s x : Int), 0 ≤ s → (stepsP false a v e p s)[k]? = some x →
    ∃ y, (if k = 0 then some p else (stepsP false a v e p s)[k - 1]?) = some y ∧ p ≤ y ∧ 1 ≤ x - y ∧ x - y ≤ v ∧ x + brakeP a (x - y) ≤ e := by
  intro k
  induction k with
  | zero =>
    intro p s x hs hx
    by_cases hp : p < e
    · rw [stepsP_go ha hs hv hp] at hx
      obtain ⟨g1, g2, g3, g4⟩ := nextP_is (a := a) (r := e - p) (s := s) (v := v) ha (by omega) hs hv
      have hx : p + nextP a (e - p) s v = x := by simpa using hx
      refine ⟨p, rfl, Int.le_refl _, by omega, by omega, ?_⟩
      have e1 : x - p = nextP a (e - p) s v := by omega
      rw [e1]; omega
    · rw [stepsP_end hp] at hx; cases hx
  | succ k ih =>
    intro p s x hs hx
    by_cases hp : p < e
    · rw [stepsP_go ha hs hv hp] at hx ⊢
      obtain ⟨g1, g2, g3, g4⟩ := nextP_is (a := a) (r := e - p) (s := s) (v := v) ha (by omega) hs hv
      simp only [List.getElem?_cons_succ] at hx
      obtain ⟨y, h1, h2, h3⟩ := ih _ _ x (by omega) hx
      refine ⟨y, ?_, by omega, h3⟩
      rw [if_neg (by omega), Nat.add_sub_cancel]
      by_cases hk : k = 0
      · subst hk
        rw [if_pos rfl] at h1
        exact h1
      · rw [if_neg hk] at h1
        obtain ⟨j, rfl⟩ : ∃ j, k = j + 1 := ⟨k - 1, by omega⟩
        rw [Nat.add_sub_cancel] at h1
        exact h1
    · rw [stepsP_end hp] at hx; cases hx
theorem stepsP_more {falls : Bool} {a e : Int} (ha : 1 ≤ a) : ∀ (n : Nat) (v p s x : Int), 0 ≤ s → 1 ≤ v → e - p ≤ n → x ∈ stepsP falls a v e p s → p < x ∧ x ≤ e := by
  intro n
  induction n with
  | zero =>
    intro v p s x hs hv h hx
    rw [stepsP_end (by omega)] at hx; cases hx
  | succ n ih =>
    intro v p s x hs hv h hx
    by_cases hp : p < e
    · rw [stepsP_go ha hs hv hp] at hx
      obtain ⟨g1, g2, g3, g4⟩ := nextP_is (a := a) (r := e - p) (s := s) (v := v) ha (by omega) hs hv
      rcases List.mem_cons.1 hx with rfl | hx
      · omega
      · have := ih (if falls then nextP a (e - p) s v else v) _ _ x (by omega) (by split <;> omega) (by omega) hx
        omega
    · rw [stepsP_end hp] at hx; cases hx

/-- How a config's robots run. -/
structure KinP where
  unit : Int
  accel : Int
  speed : Int
structure KinP.Ok (k : KinP) : Prop where
  u1 : 1 ≤ k.unit
  u2 : k.unit ≤ 1000
  a1 : 1 ≤ k.accel
  a2 : k.accel ≤ 1000
  s1 : 1 ≤ k.speed
  s2 : k.speed ≤ 1000
/-- The places of a run. -/
def KinP.prof (k : KinP) (n : Int) : List Int := if 1 ≤ n ∧ n ≤ 16 then stepsP false k.accel k.speed (n * k.unit) 0 0 else []
def KinP.time (k : KinP) (n : Int) : Int := (k.prof n).length
theorem KinP.prof_on {k : KinP} {n : Int} (h : 1 ≤ n ∧ n ≤ 16) : k.prof n = stepsP false k.accel k.speed (n * k.unit) 0 0 := if_pos h
theorem KinP.prof_off {k : KinP} {n : Int} (h : ¬ (1 ≤ n ∧ n ≤ 16)) : k.prof n = [] := if_neg h
theorem KinP.far {k : KinP} (h : k.Ok) {n : Int} (hn : 1 ≤ n ∧ n ≤ 16) : 1 ≤ n * k.unit ∧ n * k.unit ≤ 16000 := by
  have h1 := h.u1
  have h2 := h.u2
  have h3 : n * k.unit ≤ 16 * k.unit := Int.mul_le_mul_of_nonneg_right hn.2 (by omega)
  have h4 : 1 * k.unit ≤ n * k.unit := Int.mul_le_mul_of_nonneg_right hn.1 (by omega)
  omega
theorem KinP.prof_len {k : KinP} (h : k.Ok) (n : Int) : (k.prof n).length ≤ 16000 := by
  by_cases hn : 1 ≤ n ∧ n ≤ 16
  · rw [KinP.prof_on hn]
    have h1 := KinP.far h hn
    have := stepsP_len (falls := false) (a := k.accel) (e := n * k.unit) h.a1 (n * k.unit).toNat k.speed 0 0 (Int.le_refl _) h.s1 (by omega)
    omega
  · rw [KinP.prof_off hn]; simp
theorem KinP.prof_pos {k : KinP} (h : k.Ok) {n : Int} (hn : 1 ≤ n ∧ n ≤ 16) : 1 ≤ (k.prof n).length := by
  rw [KinP.prof_on hn]
  have h1 := KinP.far h hn
  exact List.length_pos_iff.2 (stepsP_ne h.a1 (Int.le_refl _) h.s1 (by omega))
/-- How a run ends that is stopped behind t ticks: cells, ticks. -/
def KinP.place (k : KinP) (n : Int) (t : Nat) : Int := (k.prof n).getD (t - 1) 0
def KinP.pace (k : KinP) (n : Int) (t : Nat) : Int := k.place n t - (if t = 1 then 0 else k.place n (t - 1))
def KinP.cells (k : KinP) (n : Int) (t : Nat) : Int := (k.place n t + brakeP k.accel (k.pace n t) + k.unit - 1) / k.unit
def KinP.stop (k : KinP) (n : Int) (t : Int) : Int × Int :=
  if t < 1 ∨ (k.prof n).length = 0 then (0, 0)
  else if (k.prof n).length ≤ t then (n, 0)
  else (k.cells n t.toNat, (stepsP true k.accel (k.pace n t.toNat) (k.cells n t.toNat * k.unit) (k.place n t.toNat) (k.pace n t.toNat)).length)
/-- In the midst of a run. -/
theorem KinP.mid {k : KinP} (h : k.Ok) {n : Int} {t : Nat} (h1 : 1 ≤ t) (h2 : t ≤ (k.prof n).length) :
    (1 ≤ n ∧ n ≤ 16) ∧ 1 ≤ k.place n t ∧ 1 ≤ k.pace n t ∧ k.pace n t ≤ k.speed ∧ k.place n t + brakeP k.accel (k.pace n t) ≤ n * k.unit := by
  have hn : 1 ≤ n ∧ n ≤ 16 := by
    by_cases hn : 1 ≤ n ∧ n ≤ 16
    · exact hn
    · rw [KinP.prof_off hn] at h2
      simp at h2
      omega
  refine ⟨hn, ?_⟩
  obtain ⟨x, hx⟩ : ∃ x, (k.prof n)[t - 1]? = some x := ⟨_, List.getElem?_eq_getElem (by omega)⟩
  have hp : k.place n t = x := by unfold KinP.place; rw [List.getD_eq_getElem?_getD, hx]; rfl
  have hx' := hx
  rw [KinP.prof_on hn] at hx'
  obtain ⟨y, g1, g2, g3, g4, g5⟩ := stepsP_at h.a1 h.s1 (t - 1) 0 0 x (Int.le_refl _) hx'
  have hs : k.pace n t = x - y := by
    unfold KinP.pace
    rw [hp]
    by_cases ht : t = 1
    · subst ht
      rw [if_pos rfl]
      simp only [Nat.sub_self, if_true] at g1
      injection g1 with g1
      omega
    · rw [if_neg ht]
      rw [if_neg (by omega), ← KinP.prof_on hn] at g1
      unfold KinP.place
      rw [List.getD_eq_getElem?_getD, g1]
      rfl
  rw [hs, hp]
  exact ⟨by omega, by omega, by omega, g5⟩
theorem KinP.cells_is {k : KinP} (h : k.Ok) {n : Int} {t : Nat} (h1 : 1 ≤ t) (h2 : t ≤ (k.prof n).length) :
    1 ≤ k.cells n t ∧ k.cells n t ≤ n ∧ k.place n t + brakeP k.accel (k.pace n t) ≤ k.cells n t * k.unit := by
  obtain ⟨hn, g1, g2, g3, g4⟩ := KinP.mid h h1 h2
  have hb := (brakeP_le (a := k.accel) (s := k.pace n t) h.a1 (by have := h.s2; omega)).1
  have hu := h.u1
  unfold KinP.cells
  have hz : 1 ≤ k.place n t + brakeP k.accel (k.pace n t) := by omega
  generalize k.place n t + brakeP k.accel (k.pace n t) = z at *
  have e1 := Int.mul_ediv_add_emod (z + k.unit - 1) k.unit
  have e2 := Int.emod_nonneg (z + k.unit - 1) (show k.unit ≠ 0 by omega)
  have e3 := Int.emod_lt_of_pos (z + k.unit - 1) (show 0 < k.unit by omega)
  refine ⟨?_, ?_, ?_⟩
  · rw [Int.le_ediv_iff_mul_le (by omega)]; omega
  · have : (z + k.unit - 1) / k.unit < n + 1 := by
      rw [Int.ediv_lt_iff_lt_mul (by omega), Int.add_mul]
      omega
    omega
  · rw [Int.mul_comm] at e1
    omega
theorem KinP.stop_is {k : KinP} (h : k.Ok) {n t : Int} (hn : 1 ≤ n) : 0 ≤ (k.stop n t).1 ∧ (k.stop n t).1 ≤ n ∧ 0 ≤ (k.stop n t).2 ∧ (k.stop n t).2 ≤ max 0 (n * k.unit) := by
  unfold KinP.stop
  split
  · exact ⟨Int.le_refl _, by show (0 : Int) ≤ n; omega, Int.le_refl _, by show (0 : Int) ≤ _; omega⟩
  · split
    · exact ⟨by show (0 : Int) ≤ n; omega, Int.le_refl _, Int.le_refl _, by show (0 : Int) ≤ _; omega⟩
    · rename_i h1 h2
      obtain ⟨g0, g1, g2, g3, g4⟩ := KinP.mid h (n := n) (t := t.toNat) (by omega) (by omega)
      obtain ⟨c1, c2, c3⟩ := KinP.cells_is h (n := n) (t := t.toNat) (by omega) (by omega)
      have hl := stepsP_len (falls := true) (a := k.accel) (e := k.cells n t.toNat * k.unit) h.a1 (k.cells n t.toNat * k.unit - k.place n t.toNat).toNat (k.pace n t.toNat) (k.place n t.toNat) (k.pace n t.toNat) (by omega) g2 (by omega)
      have hm : k.cells n t.toNat * k.unit ≤ n * k.unit := Int.mul_le_mul_of_nonneg_right c2 (by have := h.u1; omega)
      exact ⟨by show (0 : Int) ≤ k.cells n t.toNat; omega, c2, by show (0 : Int) ≤ ((_ : Nat) : Int); omega, by show ((_ : Nat) : Int) ≤ _; omega⟩
end Go.Sk
