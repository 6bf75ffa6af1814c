/- The document's example. -/
import Derived.Test.YthbhbklbhfadnaaRad1
namespace Go.Proofs.Ythbhbklbhfadnaa
open Go Go.Sk Go.RowKit

def teleN (n : Int) : Tele := { teleZ with num := n }

set_option maxHeartbeats 2000000 in
set_option maxRecDepth 100000 in
theorem awake_calls (w : World) : Calls Try.prog 13 #[] w fun e w' => e = .returned (.bool true) ∧ Mod none' w w' := by
  go_enter Try.func13, Try.ntmps13
  go_wp2_with (first
    | (go_at_call 9; go_must (refine (new_calls _).mono ?_; rintro e w1 ⟨p, rfl, hp, hR1, hm1⟩))
    | (refine wl_at (o := ⟨some 14, _, _, _, _, _⟩) ?_
       go_must (refine wl_buildSlice (e := 33) (cs := flat Tele.cells [teleN 1, teleN 2]) rfl rfl (fun W => by kernel_rfl) ?_
                intro w2 b2 h2 hB2 hm2))
    | (go_at_call 10
       go_must (refine (send_calls (xs := [teleN 1, teleN 2]) (hR1.mod hm2 fun _ _ h => h) (by simp) (hB2.rd (E := elTele) rfl) (by simp)).mono ?_
                rintro e w3 ⟨rfl, hR3, hm3⟩
                replace hR3 : RadioAt w3 p (grow (only p) w2 w3) [teleN 1, teleN 2] := hR3))
    | (refine wl_at (o := ⟨some 20, _, _, _, _, _⟩) ?_
       go_must (go_wp2_with fail
                refine (hearK_calls (t := teleN 2) (k := 1) 3 hR3 (by simp) (by simp) (by simp) rfl).mono ?_
                rintro e w4 ⟨rfl, hm4⟩
                have hR4 := hR3.mod hm4 fun _ _ h => h))
    | (refine wl_at (o := ⟨some 2, _, _, _, _, _⟩) ?_
       go_must (refine wl_alloc (z := .agg teleZ.cells.toArray) (zs := teleZ.cells) rfl rfl (by kernel_rfl) rfl ?_
                intro w5 b5 h5 hB5 hm5))
    | (refine wl_at (o := ⟨none, .store 33 (.tmp 2) _, _, _, _, _⟩) ?_
       go_must (refine wl_storeW (vs := (teleN 2).cells) rfl rfl rfl rfl (by kernel_rfl) rfl (Tele.one _) hB5 rfl ?_
                intro w6 hB6 hm6
                have hM6 : Mod none' w4 w6 := hm5.drop hm6 fun b hb => .inr (by cases hb; exact h5)
                have hR6 := hR4.mod hM6 fun _ _ h => h))
    | (refine wl_at (o := ⟨some 24, _, _, _, _, _⟩) ?_
       go_must (go_wp2_with fail
                refine (len_calls hR6).mono ?_
                rintro e w' ⟨rfl, rfl⟩))
    | (refine wl_at (o := ⟨some 50, _, _, _, _, _⟩) ?_
       go_must (go_wp2_with fail
                refine (len_calls hR9).mono ?_
                rintro e w' ⟨rfl, rfl⟩))
    | (refine wl_at (o := ⟨some 27, _, _, _, _, _⟩) ?_
       go_must (go_wp2_with fail
                refine (hearD_calls (t := teleN 2) (k := 1) (-1) hR6 (by simp) (by simp) (by simp) rfl).mono ?_
                rintro e w7 ⟨rfl, hR7, hm7⟩))
    | (refine wl_at (o := ⟨some 5, _, _, _, _, _⟩) ?_
       go_must (refine wl_alloc (z := .agg teleZ.cells.toArray) (zs := teleZ.cells) rfl rfl (by kernel_rfl) rfl ?_
                intro w8 b8 h8 hB8 hm8))
    | (refine wl_at (o := ⟨none, .store 33 (.tmp 5) _, _, _, _, _⟩) ?_
       go_must (refine wl_storeW (vs := (teleN 2).cells) rfl rfl rfl rfl (by kernel_rfl) rfl (Tele.one _) hB8 rfl ?_
                intro w9 hB9 hm9
                have hM9 : Mod none' w7 w9 := hm8.drop hm9 fun b hb => .inr (by cases hb; exact h8)
                have hR9 := hR7.mod hM9 fun _ _ h => h
                have hB69 := (hB6.mod hm7 fun h => by have := hR4.2.1 _ h; omega).mod hM9 fun h => h
                have c1 : w9.cell? ⟨b5, 3, none⟩ = some (.int .i64 2) := hB69.cell 3
                have c2 : w9.cell? ⟨b8, 3, none⟩ = some (.int .i64 2) := hB9.cell 3)))
  go_ret
  have hM4 : Mod none' w w4 := ((hm1.trans hm2).drop hm3 fun b hb => .inr (by cases hb; exact hp)).trans hm4
  exact ⟨rfl, ((hM4.trans hM6).drop hm7 fun b hb => .inr (by
    rcases hb with hb | hb
    · cases hb; exact hp
    · have := hm1.size; have := hm2.size; omega)).trans hM9⟩
end Go.Proofs.Ythbhbklbhfadnaa
