/- RadioTwice: the walk. -/
import Derived.Test.YthbhbklbhfadnaaRad2
namespace Go.Proofs.Ythbhbklbhfadnaa
open Go Go.Sk Go.RowKit

theorem lose_any {p : Nat} {F : Nat → Prop} {l : List Tele} {w : World} (h : RadioAt w p F l) (hl : l.length ≤ 1024) :
    Calls Try.prog 14 #[.pointer (some ⟨p, 0, none⟩), .int .i64 0] w fun e w' => e = .returned (.bool (decide (0 < l.length))) ∧ Mod F w w' := by
  by_cases h0 : l = []
  · subst h0
    exact (lose0_calls 0 h).mono fun e w' ⟨he, hm⟩ => ⟨he, hm.mono fun b hb => hb.elim⟩
  · have hp : 0 < l.length := List.length_pos_iff.2 h0
    rw [decide_eq_true hp]
    exact (lose_calls (k := 0) 0 h hp hl (by simp) (List.getElem?_eq_getElem hp)).mono fun e w' ⟨he, _, hm⟩ => ⟨he, hm⟩

/-- At the loop's head. -/
def TwiceAt (w : World) (p n : Nat) (l : List Tele) (i : Value) (wr : World) : Prop :=
  ∃ j : Nat, i = .int .i64 j ∧ j ≤ n ∧ ∃ F, RadioAt wr p F l ∧ (∀ b, F b → w.heap.size ≤ b) ∧ Mod none' w wr

theorem teleEq : eqTy Try.prog 33 teleKs = true := by kernel_rfl

set_option maxHeartbeats 4000000 in
set_option maxRecDepth 100000 in
theorem twice_calls (v : Value) (l : List Tele) (a1 a2 : Int) (w : World) (hl : Rd w elTele v l) : Calls Try.prog 5 #[v, .int .i64 a1, .int .i64 a2] w fun e w' => e = .returned (.bool true) ∧ Mod none' w w' := by
  obtain ⟨ad, c, rfl⟩ := hl.vee
  by_cases hg : l.length = 0 ∨ 100 < l.length
  · rcases hg with hg | hg
    · have hb : ((l.length : Int) == 0) = true := beq_iff_eq.2 (by omega)
      go_enter Try.func5, Try.ntmps5
      go_wp2_with (go_at_call 13; go_must (refine (awake_calls _).mono ?_; rintro e w7 ⟨rfl, hm7⟩))
      go_ret
      exact ⟨rfl, hm7⟩
    · have hb : ((l.length : Int) == 0) = false := beq_eq_false_iff_ne.2 (by omega)
      go_enter Try.func5, Try.ntmps5
      go_wp2_with (go_at_call 13; go_must (refine (awake_calls _).mono ?_; rintro e w7 ⟨rfl, hm7⟩))
      go_ret
      exact ⟨rfl, hm7⟩
  · have hl0 : 0 < l.length := by omega
    have hl1 : l.length ≤ 100 := by omega
    clear hg
    have hb : ((l.length : Int) == 0) = false := beq_eq_false_iff_ne.2 (by omega)
    obtain ⟨n, hn, hn5⟩ : ∃ n : Nat, a2 % 9 = n ∧ n < 9 := ⟨(a2 % 9).toNat, by omega, by omega⟩
    obtain ⟨k, hk, hkl⟩ : ∃ k : Nat, a1 % (l.length : Int) = k ∧ k < l.length := ⟨(a1 % (l.length : Int)).toNat, by
      have := Int.emod_nonneg a1 (show (l.length : Int) ≠ 0 by omega); omega, by
      have := Int.emod_lt_of_pos a1 (show (0 : Int) < l.length by omega); have := Int.emod_nonneg a1 (show (l.length : Int) ≠ 0 by omega); omega⟩
    obtain ⟨t, ht⟩ : ∃ t, l[k]? = some t := ⟨_, List.getElem?_eq_getElem hkl⟩
    have hkk : (k : Int) % (l.length : Int) = k := Int.emod_eq_of_lt (by omega) (by omega)
    have hel : (l.eraseIdx k).length = l.length - 1 := by rw [List.length_eraseIdx, if_pos hkl]
    have HEL := Lib.hid hel
    have HKK := Lib.hid hkk
    have HT := Lib.hid ht
    have HN := Lib.hid hn
    have HK := Lib.hid hk
    have heq : cellsEq t.cells t.cells = true := by rw [Tele.eq]; simp
    clear hn hk ht hkk hel
    go_enter Try.func5, Try.ntmps5
    go_wp2_with (first
      | (go_at_call 9; go_must (refine (new_calls _).mono ?_; rintro e w1 ⟨p, rfl, hp, hR1, hm1⟩))
      | (refine wl_at (o := ⟨some 29, _, _, _, _, _⟩) ?_
         go_must (refine wl_app teleTy (Ow.nil _ _ _) (hl.mod hm1 fun _ _ h => h) rfl rfl rfl rfl (by simp [maxLen]; omega) (by simp; omega) ?_
                  intro ad2 n2 c2 w2 ho2 hm2 hf2
                  rw [List.nil_append] at ho2
                  replace hm2 : Mod none' _ w2 := hm2.mono fun b h => by cases h))
      | (go_at_call 10
         go_must (refine (send_calls (hR1.mod hm2 fun _ _ h => h) (by simp) ho2.rd (by omega)).mono ?_
                  rintro e w3 ⟨rfl, hR3, hm3⟩
                  have hM3 : Mod none' w w3 := (hm1.trans hm2).drop hm3 fun b hb => .inr (by cases hb; exact hp)
                  rw [show min l.length (1024 - ([] : List Tele).length) = l.length by simp; omega]
                  replace hR3 : RadioAt w3 p (grow (only p) w2 w3) l := by rwa [List.nil_append, List.take_of_length_le (by simp; omega)] at hR3))
      | (refine wl_at (o := ⟨some 38, _, _, _, _, _⟩) ?_
         go_must (go_wp2_with fail
                  refine (Place_calls a1 (l.length : Int) _ (by omega) (by omega)).mono ?_
                  rintro e w' ⟨rfl, rfl⟩
                  rw [HK.out])))
    go_loopw [6, 9] (fun _ i wr => TwiceAt w p (1 + n) l i wr) (fun _ i _ => 1 + n - (intOf i).toNat)
    case atStart => exact ⟨0, rfl, by omega, _, hR3, fun b hb => by
      rcases hb with hb | hb
      · cases hb; exact hp
      · have := hm1.size; have := hm2.size; omega, hM3⟩
    case round =>
      obtain ⟨j, rfl, hj, F, hR, hF, hM⟩ := hrel
      by_cases hlt : j < 1 + n
      · have hlt' : decide ((j : Int) < 1 + (n : Int)) = true := decide_eq_true (by omega)
        go_wp2_with (first
          | (refine wp_region_text (by kernel_rfl) (by kernel_rfl) ?_)
          | (refine atEnd_mk (by kernel_rfl) ?_)
          | (go_at_call 8; go_must (refine (Place_calls a2 9 _ (by omega) (by omega)).mono ?_; rintro e w' ⟨rfl, rfl⟩; rw [HN.out]))
          | (go_at_call 12
             go_must (refine (hearK_calls (t := t) (k := k) _ hR (by omega) (by omega) HKK.out HT.out).mono ?_
                      rintro e w4 ⟨rfl, hm4⟩))
          | (refine wl_at (o := ⟨some 10, _, _, _, _, _⟩) ?_
             go_must (refine wl_alloc (z := .agg teleZ.cells.toArray) (zs := teleZ.cells) rfl rfl (by kernel_rfl) rfl ?_
                      intro w5 b5 h5 hB5 hm5))
          | (refine wl_at (o := ⟨none, .store 33 _ _, _, _, _, _⟩) ?_
             go_must (refine wl_storeW (vs := t.cells) rfl rfl rfl rfl (by kernel_rfl) (elTele.len t) (Tele.one _) hB5 rfl ?_
                      intro w6 hB6 hm6
                      have hM6 : Mod none' wr w6 := (hm4.trans hm5).drop hm6 fun b hb => .inr (by cases hb; have := hm4.size; omega)
                      have hR6 := hR.mod hM6 fun _ _ h => h
                      have hl6 : Rd w6 elTele (.slice ad l.length c) l := (hl.mod hM fun _ _ h => h).mod hM6 fun _ _ h => h))
          | (refine wl_at (o := ⟨some 55, _, _, _, _, _⟩) ?_
             go_must (refine wl_loadS rfl rfl rfl (by kernel_rfl) (elTele.len t) hB6.at0 ?_))
          | (refine wl_at (o := ⟨some 58, _, _, _, _, _⟩) ?_
             go_must (refine wl_ix rfl rfl rfl rfl teleTy.und teleTy.size hl6 HT.out ?_
                      intro b7 k7 hat7 hbk7))
          | (refine wl_at (o := ⟨some 59, _, _, _, _, _⟩) ?_
             go_must (refine wl_loadS rfl rfl rfl (by kernel_rfl) (elTele.len t) hat7 ?_))
          | (refine wl_at (o := ⟨some 60, _, _, _, _, _⟩) ?_
             go_must (refine wl_neqS (xs := t.cells) (ys := t.cells) rfl rfl rfl rfl teleEq t.ks t.ks ?_
                      rw [heq]))
          | (refine wl_at (o := ⟨some 64, _, _, _, _, _⟩) ?_
             go_must (go_wp2_with fail
                      refine (len_calls (w := w6.drew) hR6).mono ?_
                      rintro e w' ⟨rfl, rfl⟩)))
        go_roundw
        case rel => exact ⟨j + 1, by go_num, by omega, F, hR6, hF, (hM.trans hM6).trans (Mod.drew w6)⟩
        case measure => simp [intOf]; omega
      · have hlt' : decide ((j : Int) < 1 + (n : Int)) = false := decide_eq_false (by omega)
        have HLo : ∀ W : World, RadioAt W p F (l.eraseIdx k) → Calls Try.prog 14 #[.pointer (some ⟨p, 0, none⟩), .int .i64 0] W fun e w' => e = .returned (.bool (decide (1 < (l.length : Int)))) ∧ Mod F W w' := fun W hW =>
          (lose_any hW (by rw [HEL.out]; omega)).mono fun e w' ⟨he, hm⟩ => ⟨by rw [he, HEL.out]; congr 2; rw [decide_eq_decide]; omega, hm⟩
        have HLO := Lib.hid HLo
        clear HLo
        go_wp2_with (first
          | (refine wp_region_text (by kernel_rfl) (by kernel_rfl) ?_)
          | (refine atEnd_mk (by kernel_rfl) ?_)
          | (go_at_call 8; go_must (refine (Place_calls a2 9 _ (by omega) (by omega)).mono ?_; rintro e w' ⟨rfl, rfl⟩; rw [HN.out]))
          | (go_at_call 12
             go_must (refine (hearD_calls (t := t) (k := k) _ hR (by omega) (by omega) HKK.out HT.out).mono ?_
                      rintro e w4 ⟨rfl, hR4, hm4⟩))
          | (refine wl_at (o := ⟨some 12, _, _, _, _, _⟩) ?_
             go_must (refine wl_alloc (z := .agg teleZ.cells.toArray) (zs := teleZ.cells) rfl rfl (by kernel_rfl) rfl ?_
                      intro w5 b5 h5 hB5 hm5))
          | (refine wl_at (o := ⟨none, .store 33 _ _, _, _, _, _⟩) ?_
             go_must (refine wl_storeW (vs := t.cells) rfl rfl rfl rfl (by kernel_rfl) (elTele.len t) (Tele.one _) hB5 rfl ?_
                      intro w6 hB6 hm6
                      have hM6 : Mod none' w4 w6 := hm5.drop hm6 fun b hb => .inr (by cases hb; omega)
                      have hM06 : Mod none' w w6 := (hM.drop hm4 fun b hb => .inr (hF b hb)).trans hM6
                      have hR6 := hR4.mod hM6 fun _ _ h => h
                      have hl6 : Rd w6 elTele (.slice ad l.length c) l := hl.mod hM06 fun _ _ h => h))
          | (refine wl_at (o := ⟨some 77, _, _, _, _, _⟩) ?_
             go_must (refine wl_loadS rfl rfl rfl (by kernel_rfl) (elTele.len t) hB6.at0 ?_))
          | (refine wl_at (o := ⟨some 80, _, _, _, _, _⟩) ?_
             go_must (refine wl_ix rfl rfl rfl rfl teleTy.und teleTy.size hl6 HT.out ?_
                      intro b7 k7 hat7 hbk7))
          | (refine wl_at (o := ⟨some 81, _, _, _, _, _⟩) ?_
             go_must (refine wl_loadS rfl rfl rfl (by kernel_rfl) (elTele.len t) hat7 ?_))
          | (refine wl_at (o := ⟨some 82, _, _, _, _, _⟩) ?_
             go_must (refine wl_eqlS (xs := t.cells) (ys := t.cells) rfl rfl rfl rfl teleEq t.ks t.ks ?_
                      rw [heq]))
          | (refine wl_at (o := ⟨some 86, _, _, _, _, _⟩) ?_
             go_must (go_wp2_with fail
                      refine (len_calls (w := w6.drew) hR6).mono ?_
                      rintro e w' ⟨rfl, rfl⟩
                      rw [HEL.out, show ((l.length - 1 : Nat) : Int) = (l.length : Int) - 1 by omega]))
          | (refine wl_at (o := ⟨some 94, _, _, _, _, _⟩) ?_
             go_must (go_wp2_with fail
                      refine (HLO.out w6.drew hR6).mono ?_
                      rintro e w8 ⟨rfl, hm8⟩
                      replace hm8 := (Mod.drew w6).trans hm8))
          | (go_at_call 13; go_must (refine (awake_calls _).mono ?_; rintro e w7 ⟨rfl, hm7⟩)))
        go_ret
        exact ⟨rfl, (hM06.drop hm8 fun b hb => .inr (hF b hb)).trans hm7⟩
end Go.Proofs.Ythbhbklbhfadnaa
