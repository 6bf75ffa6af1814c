/- RadioFull: for every input the call returns true and nothing that was there has turned. -/
import Derived.Test.YthbhbklbhfadnaaRad2
namespace Go.Proofs.Ythbhbklbhfadnaa
open Go Go.Sk Go.RowKit

/-- The telegrams that are sent: at most so many stay. -/
def sent (i : Nat) : List Tele := (List.range (min i 1024)).map fun j : Nat => teleN (j : Int)
theorem sent_len (i : Nat) : (sent i).length = min i 1024 := by simp [sent]
theorem sent_succ (i : Nat) : sent i ++ [teleN i].take (1024 - (sent i).length) = sent (i + 1) := by
  rw [sent_len]
  unfold sent
  by_cases h : i < 1024
  · rw [show min i 1024 = i by omega, show min (i + 1) 1024 = i + 1 by omega, List.range_succ, List.map_append, List.take_of_length_le (by simp; omega)]
    rfl
  · rw [show min i 1024 = 1024 by omega, show min (i + 1) 1024 = 1024 by omega]
    simp

theorem zeros_flat (m : Nat) : ((List.range m).flatMap fun _ => teleZ.cells) = flat elTele.cells (List.replicate m teleZ) := by
  induction m with
  | zero => rfl
  | succ m ih => rw [List.range_succ, List.flatMap_append, ih, List.replicate_succ', flat_append]; rfl
theorem sent_get (i k : Nat) (h : k < min i 1024) (ys : List Tele) : (sent i ++ ys)[k]? = some (teleN k) := by
  rw [List.getElem?_append_left (by rw [sent_len]; exact h)]
  unfold sent
  rw [List.getElem?_map, List.getElem?_range h]
  rfl

set_option maxHeartbeats 4000000 in
set_option maxRecDepth 100000 in
theorem full_calls (a0 a1 : Int) (w : World) : Calls Try.prog 3 #[.int .i64 a0, .int .i64 a1] w fun e w' => e = .returned (.bool true) ∧ Mod none' w w' := by
  obtain ⟨n, hn, hn6⟩ : ∃ n : Nat, a0 % 7 = n ∧ n ≤ 6 := ⟨(a0 % 7).toNat, by omega, by omega⟩
  obtain ⟨m, hm, hm4⟩ : ∃ m : Nat, a1 % 5 = m ∧ m ≤ 4 := ⟨(a1 % 5).toNat, by omega, by omega⟩
  have HN := Lib.hid hn
  have HM := Lib.hid hm
  clear hn hm
  go_enter Try.func3, Try.ntmps3
  go_wp2_with (first
    | (refine wl_at (o := ⟨some 11, _, _, _, _, _⟩) ?_
       go_must (go_wp2_with fail
                refine (Place_calls a0 7 _ (by omega) (by omega)).mono ?_
                rintro e w' ⟨rfl, rfl⟩
                rw [HN.out]))
    | (refine wl_at (o := ⟨some 14, _, _, _, _, _⟩) ?_
       go_must (go_wp2_with fail
                refine (Place_calls a1 5 _ (by omega) (by omega)).mono ?_
                rintro e w' ⟨rfl, rfl⟩
                rw [HM.out]))
    | (go_at_call 9; go_must (refine (new_calls _).mono ?_; rintro e w1 ⟨p, rfl, hp, hR1, hm1⟩)))
  go_loopw [6, 7] (fun k i wr => ∃ j K : Nat, j ≤ 1021 + n ∧ Hid (K = min j 1024) ∧ i = .int .i64 j ∧ k = .int .i64 K ∧ ∃ F, RadioAt wr p F (sent j) ∧ (∀ b, F b → w.heap.size ≤ b) ∧ Mod none' w wr) (fun _ i _ => 1021 + n - (intOf i).toNat)
  case atStart => exact ⟨0, 0, Nat.zero_le _, rfl, rfl, rfl, only p, hR1, fun b hb => by cases hb; exact hp, hm1⟩
  case round =>
    obtain ⟨j, K, hj, HK, rfl, rfl, F, hR, hF, hM⟩ := hrel
    have hK : K ≤ 1024 := by have := HK.out; omega
    have hls : (sent j).length = K := by rw [sent_len]; exact HK.out.symm
    have HLS := Lib.hid hls
    clear hls
    by_cases hlt : j < 1021 + n
    · go_wp2_with (first
        | (refine wl_at (o := ⟨some 27, _, _, _, _, _⟩) ?_
           go_must (refine wl_buildSlice (e := 33) (cs := flat Tele.cells [teleN j]) rfl rfl (fun W => by kernel_rfl) ?_
                    intro w2 b2 h2 hB2 hm2))
        | (go_at_call 10
           go_must (refine (send_calls (xs := [teleN j]) (hR.mod hm2 fun _ _ h => h) (by rw [HLS.out]; omega) (hB2.rd (E := elTele) rfl) (by simp)).mono ?_
                    rintro e w3 ⟨rfl, hR3, hm3⟩
                    rw [sent_succ, HLS.out] at *)))
      go_roundw
      case rel =>
        have hM3 : Mod none' w w3 := (hM.trans hm2).drop hm3 fun b hb => .inr (hF b hb)
        refine ⟨j + 1, min (j + 1) 1024, by omega, rfl, by go_num, ?_, _, hR3, fun b hb => ?_, hM3⟩
        · have := HK.out; simp; omega
        · rcases hb with hb | hb
          · exact hF b hb
          · have := hM.size; have := hm2.size; omega
      case measure => simp [intOf]; omega
    · obtain rfl : j = 1021 + n := by omega
      obtain ⟨k, hk, rfl⟩ : ∃ k, k + 1 = K ∧ K = k + 1 := ⟨K - 1, by have := HK.out; omega, by have := HK.out; omega⟩
      clear hk
      have hcs : (k + 1 = 1021 + n ∧ n ≤ 3) ∨ (k + 1 = 1024 ∧ 3 < n) := by have := HK.out; omega
      have hd1 : ((((k + 1 : Nat) : Int)) != min (1021 + (n : Int)) 1024) = false := by simp; omega
      have hls : (sent (1021 + n) ++ (List.replicate m teleZ).take (1024 - (k + 1))).length = k + 1 + min m (1024 - (k + 1)) := by
        rw [List.length_append, HLS.out, List.length_take, List.length_replicate, Nat.min_comm]
      have HL2 := Lib.hid hls
      clear hls
      go_wp2_with (first
        | (refine wl_at (o := ⟨some 36, _, _, _, _, _⟩) ?_
           go_must (go_wp2_with fail
                    refine (len_calls hR).mono ?_
                    rintro e w' ⟨rfl, rfl⟩
                    rw [HLS.out]))
        | (refine wl_at (o := ⟨some 43, _, _, _, _, _⟩) ?_
           go_must (refine wl_mk teleTy rfl rfl rfl rfl (by omega) (by omega) ?_
                    intro w2 b2 h2 hB2 hm2
                    rw [show ((List.range m).flatMap fun _ => Tele.cells ⟨0, 0, 0, 0, ⟨0, 0, 0, ⟨⟨0, 0⟩, false⟩, ⟨⟨0, 0⟩, false⟩, 0, 0⟩, ⟨⟨0, 0⟩, false⟩, 0⟩) = flat elTele.cells (List.replicate m teleZ) from zeros_flat m] at hB2))
        | (go_at_call 10
           go_must (refine (send_calls (hR.mod hm2 fun _ _ h => h) (by rw [HLS.out]; omega) (hB2.rd (E := elTele) (by simp)) (by simp; omega)).mono ?_
                    rintro e w3 ⟨rfl, hR3, hm3⟩
                    rw [List.length_replicate, HLS.out] at *))
        | (go_at_call 12
           go_must (refine (hearD_calls (t := teleN k) (k := k) _ hR3 (by rw [HL2.out]; omega) (by rw [HL2.out]; omega) (by rw [HL2.out, Int.emod_eq_of_lt (by omega) (by omega)]; omega) (sent_get _ _ (by have := HK.out; omega) _)).mono ?_
                    rintro e w4 ⟨rfl, hR4, hm4⟩))
        | (refine wl_at (o := ⟨some 8, _, _, _, _, _⟩) ?_
           go_must (refine wl_alloc (z := .agg teleZ.cells.toArray) (zs := teleZ.cells) rfl rfl (by kernel_rfl) rfl ?_
                    intro w5 b5 h5 hB5 hm5))
        | (refine wl_at (o := ⟨none, .store 33 _ _, _, _, _, _⟩) ?_
           go_must (refine wl_storeW (vs := (teleN k).cells) rfl rfl rfl rfl (by kernel_rfl) rfl (Tele.one _) hB5 rfl ?_
                    intro w6 hB6 hm6
                    have c1 : w6.cell? ⟨b5, 3, none⟩ = some (.int .i64 k) := hB6.cell 3))
        | (go_at_call 13; go_must (refine (awake_calls _).mono ?_; rintro e w7 ⟨rfl, hm7⟩)))
      all_goals
        go_ret
        have hM2 := hM.trans hm2
        have hM3 : Mod none' w w3 := hM2.drop hm3 fun b hb => .inr (hF b hb)
        have hM4 : Mod none' w w4 := hM3.drop hm4 fun b hb => .inr (by
          rcases hb with hb | hb
          · exact hF b hb
          · have := hM2.size; omega)
        have hM6 : Mod none' w w6 := (hM4.trans hm5).drop hm6 fun b hb => .inr (by cases hb; have := hM4.size; omega)
        exact ⟨rfl, hM6.trans hm7⟩
end Go.Proofs.Ythbhbklbhfadnaa
