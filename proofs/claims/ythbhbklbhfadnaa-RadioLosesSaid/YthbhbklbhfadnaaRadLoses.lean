/- RadioLoses: the walk. -/
import Derived.Test.YthbhbklbhfadnaaRad2
namespace Go.Proofs.Ythbhbklbhfadnaa
open Go Go.Sk Go.RowKit

def numbered (i : Nat) : List Tele := (List.range i).map fun j : Nat => teleN ((j : Int) + 1)
theorem numbered_len (i : Nat) : (numbered i).length = i := by simp [numbered]
theorem numbered_succ (i : Nat) (h : i < 1024) : numbered i ++ [teleN ((i : Int) + 1)].take (1024 - (numbered i).length) = numbered (i + 1) := by
  rw [numbered_len, List.take_of_length_le (by simp; omega)]
  simp [numbered, List.range_succ]
/-- Their numbers rise, and are above a bound. -/
def Rising (last : Int) (l : List Tele) : Prop := l.Pairwise (fun a b => a.num < b.num) ∧ ∀ t ∈ l, last < t.num
theorem numbered_rising (i : Nat) : Rising 0 (numbered i) := by
  unfold Rising numbered
  constructor
  · rw [List.pairwise_map]
    exact List.pairwise_lt_range.imp fun h => by simpa [teleN] using h
  · intro t ht
    obtain ⟨j, _, rfl⟩ := List.mem_map.1 ht
    simp only [teleN]; omega
theorem Rising.erase {last : Int} {l : List Tele} (h : Rising last l) (k : Nat) : Rising last (l.eraseIdx k) :=
  ⟨h.1.sublist (List.eraseIdx_sublist l k), fun t ht => h.2 t ((List.eraseIdx_sublist l k).mem ht)⟩
theorem Rising.tail {last : Int} {t : Tele} {l : List Tele} (h : Rising last (t :: l)) : last < t.num ∧ Rising t.num l :=
  ⟨h.2 t (by simp), (List.pairwise_cons.1 h.1).2, fun u hu => (List.pairwise_cons.1 h.1).1 u hu⟩

theorem intTy : SliceTy Try.prog 40 3 elInt.sz 8 [.int .i64 0] :=
  SliceTy.mk' (z := .int .i64 0) (by kernel_rfl) (by kernel_rfl) rfl rfl

/-- At the second loop's head. -/
def LosesAt (w : World) (p len : Nat) (k i : Value) (wr : World) : Prop :=
  ∃ (j K : Nat) (l : List Tele), i = .int .i64 j ∧ k = .int .i64 K ∧ Hid (l.length = K) ∧ K ≤ 50 ∧ j ≤ len ∧ Rising 0 l ∧ ∃ F, RadioAt wr p F l ∧ (∀ b, F b → w.heap.size ≤ b) ∧ Mod none' w wr
/-- At the third loop's head. -/
def HeardAt (w : World) (p K : Nat) (last i : Value) (wr : World) : Prop :=
  ∃ (j : Nat) (m : Int) (l : List Tele), i = .int .i64 j ∧ last = .int .i64 m ∧ Hid (l.length = K - j) ∧ j ≤ K ∧ Rising m l ∧ ∃ F, RadioAt wr p F l ∧ (∀ b, F b → w.heap.size ≤ b) ∧ Mod none' w wr

set_option maxHeartbeats 4000000 in
set_option maxRecDepth 100000 in
theorem loses_calls (a0 : Int) (v : Value) (ls : List Int) (w : World) (hls : Rd w elInt v ls) : Calls Try.prog 4 #[.int .i64 a0, v] w fun e w' => e = .returned (.bool true) ∧ Mod none' w w' := by
  obtain ⟨ad, c, rfl⟩ := hls.vee
  obtain ⟨n, hn, hn5⟩ : ∃ n : Nat, a0 % 50 = n ∧ n < 50 := ⟨(a0 % 50).toNat, by omega, by omega⟩
  have HN := Lib.hid hn
  clear hn
  go_enter Try.func4, Try.ntmps4
  go_wp2_with (first
    | (refine wl_at (o := ⟨some 14, _, _, _, _, _⟩) ?_
       go_must (go_wp2_with fail
                refine (Place_calls a0 50 _ (by omega) (by omega)).mono ?_
                rintro e w' ⟨rfl, rfl⟩
                rw [HN.out]))
    | (go_at_call 9; go_must (refine (new_calls _).mono ?_; rintro e w1 ⟨p, rfl, hp, hR1, hm1⟩)))
  go_loopw [6] (fun i wr => ∃ j : Nat, j ≤ 1 + n ∧ i = .int .i64 j ∧ ∃ F, RadioAt wr p F (numbered j) ∧ (∀ b, F b → w.heap.size ≤ b) ∧ Mod none' w wr) (fun i _ => 1 + n - (intOf i).toNat)
  case atStart => exact ⟨0, Nat.zero_le _, rfl, only p, hR1, fun b hb => by cases hb; exact hp, hm1⟩
  case round =>
    obtain ⟨j, hj, rfl, F, hR, hF, hM⟩ := hrel
    by_cases hlt : j < 1 + n
    · have HS := Lib.hid (numbered_succ j (by omega))
      have HL := Lib.hid (numbered_len j)
      go_wp2_with (first
        | (refine wl_at (o := ⟨some 28, _, _, _, _, _⟩) ?_
           go_must (refine wl_buildSlice (e := 33) (cs := flat Tele.cells [teleN ((j : Int) + 1)]) rfl rfl (fun W => by kernel_rfl) ?_
                    intro w2 b2 h2 hB2 hm2))
        | (go_at_call 10
           go_must (refine (send_calls (xs := [teleN ((j : Int) + 1)]) (hR.mod hm2 fun _ _ h => h) (by rw [HL.out]; omega) (hB2.rd (E := elTele) rfl) (by simp)).mono ?_
                    rintro e w3 ⟨rfl, hR3, hm3⟩
                    rw [HS.out] at hR3)))
      go_roundw
      case rel =>
        have hM3 : Mod none' w w3 := (hM.trans hm2).drop hm3 fun b hb => .inr (hF b hb)
        refine ⟨j + 1, by omega, by go_num, _, hR3, fun b hb => ?_, hM3⟩
        rcases hb with hb | hb
        · exact hF b hb
        · have := hM.size; have := hm2.size; omega
      case measure => simp [intOf]; omega
    · obtain rfl : j = 1 + n := by omega
      have hr0 := numbered_rising (1 + n)
      have hl0 := numbered_len (1 + n)
      generalize numbered (1 + n) = l0 at hR hr0 hl0
      have HR0 := Lib.hid hr0
      have HL0 := Lib.hid hl0
      clear hr0 hl0
      go_wp2_with fail
      obtain ⟨wo, rfl⟩ : ∃ wo : World, wo = wr := ⟨_, rfl⟩
      go_loopw [4, 7, 8] (fun _ k i wr => LosesAt w p ls.length k i wr) (fun _ _ i _ => ls.length - (intOf i).toNat)
      case atStart => exact ⟨0, 1 + n, l0, rfl, by go_num, HL0, by omega, Nat.zero_le _, HR0.out, F, hR, hF, hM⟩
      case round =>
        obtain ⟨j, K, l, rfl, rfl, HK, hK5, hjl, hrise, F2, hR2, hF2, hM2⟩ := hrel
        have hmax : ls.length ≤ maxLen ∨ True := .inr trivial
        by_cases hin : j < ls.length ∧ j < 60
        · obtain ⟨hj1, hj6⟩ := hin
          obtain ⟨x, hx⟩ : ∃ x, ls[j]? = some x := ⟨_, List.getElem?_eq_getElem hj1⟩
          have HX := Lib.hid hx
          have hb1 : decide (j < ls.length) = true := decide_eq_true hj1
          clear hx
          by_cases hK0 : K = 0
          · subst hK0
            obtain rfl : l = [] := List.eq_nil_of_length_eq_zero HK.out
            go_wp2_with (first
              | (refine wl_at (o := ⟨some 44, _, _, _, _, _⟩) ?_
                 go_must (refine wl_ix rfl rfl rfl rfl intTy.und intTy.size (hls.mod hM2 fun _ _ h => h) HX.out ?_
                          intro b5 k5 hat5 hbk5
                          have c5 := hat5 0 _ rfl
                          rw [Nat.add_zero] at c5))
              | (go_at_call 14
                 go_must (refine (lose0_calls x hR2).mono ?_
                          rintro e w3 ⟨rfl, hm3⟩)))
            go_roundw
            case rel =>
              have R : LosesAt w p ls.length (.int .i64 0) (.int .i64 ((j : Int) + 1)) w3 := ⟨j + 1, 0, [], by go_num, rfl, HK, by omega, by omega, hrise, F2, hR2.mod hm3 fun _ _ h => h, hF2, hM2.trans hm3⟩
              first | exact R | ((repeat apply Exists.intro); refine ⟨R, ?_⟩; (repeat' (first | exact rfl | apply And.intro)); done)
            case measure => simp [intOf]; omega
          · have hl0 : 0 < l.length := by rw [HK.out]; omega
            have hKp : 0 < K := by omega
            obtain ⟨kk, hkk, hkl⟩ : ∃ kk : Nat, x % (l.length : Int) = kk ∧ kk < l.length := ⟨(x % (l.length : Int)).toNat, by
              have := Int.emod_nonneg x (show (l.length : Int) ≠ 0 by omega); omega, by
              have := Int.emod_lt_of_pos x (show (0 : Int) < l.length by omega); have := Int.emod_nonneg x (show (l.length : Int) ≠ 0 by omega); omega⟩
            have HC := Lib.hid (fun W (hW : RadioAt W p F2 l) => lose_calls (w := W) x hW hl0 (by rw [HK.out]; omega) hkk (List.getElem?_eq_getElem hkl))
            clear hkk hl0
            go_wp2_with (first
              | (refine wl_at (o := ⟨some 44, _, _, _, _, _⟩) ?_
                 go_must (refine wl_ix rfl rfl rfl rfl intTy.und intTy.size (hls.mod hM2 fun _ _ h => h) HX.out ?_
                          intro b5 k5 hat5 hbk5
                          have c5 := hat5 0 _ rfl
                          rw [Nat.add_zero] at c5))
              | (go_at_call 14
                 go_must (refine (HC.out _ hR2).mono ?_
                          rintro e w3 ⟨rfl, hR3, hm3⟩)))
            all_goals
              go_roundw
              case rel =>
                have R : ∀ v : Int, v = (K : Int) - 1 → LosesAt w p ls.length (.int .i64 v) (.int .i64 ((j : Int) + 1)) w3 := fun v hv => ⟨j + 1, K - 1, l.eraseIdx kk, by go_num, by rw [hv]; exact congrArg (Value.int .i64) (by omega), by have := HK.out; show _ = _; rw [List.length_eraseIdx, if_pos hkl]; omega, by omega, by omega, hrise.erase kk, F2, hR3, hF2, hM2.drop hm3 fun b hb => .inr (hF2 b hb)⟩
                first | exact R _ (by omega) | ((repeat apply Exists.intro); refine ⟨R ((K : Int) - 1) rfl, ?_⟩; (repeat' (first | exact rfl | apply And.intro)); done) | ((repeat apply Exists.intro); refine ⟨R 0 (by omega), ?_⟩; (repeat' (first | exact rfl | apply And.intro)); done)
              case measure => simp [intOf]; omega
        · have hb1 : decide (j < ls.length ∧ j < 60) = false := decide_eq_false hin
          go_wp2_with fail
          all_goals
            obtain ⟨w2, rfl⟩ : ∃ w2 : World, w2 = wr := ⟨_, rfl⟩
            go_loopw [4, 9, 10] (fun _ la i wr => HeardAt w p K la i wr) (fun _ _ i _ => K - (intOf i).toNat)
            case atStart => exact ⟨0, 0, l, rfl, rfl, HK, Nat.zero_le _, hrise, F2, hR2, hF2, hM2⟩
            case round =>
              obtain ⟨q, m, l3, rfl, rfl, HQ, hqK, hrise3, F3, hR3, hF3, hM3⟩ := hrel
              by_cases hq : q < K
              · obtain ⟨t, l4, rfl⟩ : ∃ t l4, l3 = t :: l4 := List.exists_cons_of_ne_nil (by intro h; subst h; have := HQ.out; simp at this; omega)
                obtain ⟨hmt, hrise4⟩ := hrise3.tail
                have hnt : decide (t.num ≤ m) = false := decide_eq_false (by omega)
                have hl1 : (t :: l4).length ≤ 1024 := by rw [HQ.out]; omega
                go_wp2_with (first
                  | (go_at_call 12
                     go_must (refine (hearD_calls (t := t) (k := 0) 0 hR3 (by simp) hl1 (by simp) rfl).mono ?_
                              rintro e w4 ⟨rfl, hR4, hm4⟩))
                  | (refine wl_at (o := ⟨some 11, _, _, _, _, _⟩) ?_
                     go_must (refine wl_alloc (z := .agg teleZ.cells.toArray) (zs := teleZ.cells) rfl rfl (by kernel_rfl) rfl ?_
                              intro w5 b5 h5 hB5 hm5))
                  | (refine wl_at (o := ⟨none, .store 33 _ _, _, _, _, _⟩) ?_
                     go_must (refine wl_storeW (vs := t.cells) rfl rfl rfl rfl (by kernel_rfl) (elTele.len t) (Tele.one _) hB5 rfl ?_
                              intro w6 hB6 hm6
                              have c1 : w6.cell? ⟨b5, 3, none⟩ = some (.int .i64 t.num) := hB6.cell 3)))
                go_roundw
                case rel =>
                  have hM6 : Mod none' w4 w6 := hm5.drop hm6 fun b hb => .inr (by cases hb; exact h5)
                  have R : HeardAt w p K (.int .i64 t.num) (.int .i64 ((q : Int) + 1)) w6 := ⟨q + 1, t.num, l4, by go_num, rfl, by have := HQ.out; show _ = _; simp at this ⊢; omega, by omega, hrise4, F3, hR4.mod hM6 fun _ _ h => h, hF3, (hM3.drop hm4 fun b hb => .inr (hF3 b hb)).trans hM6⟩
                  first | exact R | ((repeat apply Exists.intro); refine ⟨R, ?_⟩; (repeat' (first | exact rfl | apply And.intro)); done)
                case measure => simp [intOf]; omega
              · obtain rfl : q = K := by omega
                obtain rfl : l3 = [] := List.eq_nil_of_length_eq_zero (by rw [HQ.out]; omega)
                go_wp2_with (first
                  | (go_at_call 11; go_must (refine (len_calls hR3).mono ?_; rintro e w4 ⟨rfl, rfl⟩))
                  | (go_at_call 13; go_must (refine (awake_calls _).mono ?_; rintro e w7 ⟨rfl, hm7⟩)))
                go_ret
                exact ⟨rfl, hM3.trans hm7⟩
end Go.Proofs.Ythbhbklbhfadnaa
