/- RadioOrder: the walk. -/
import Derived.Test.YthbhbklbhfadnaaRad4
namespace Go.Proofs.Ythbhbklbhfadnaa
open Go Go.Sk Go.RowKit

theorem sendAll_calls {p : Nat} {F : Nat → Prop} {l : List Tele} {w : World} {x : Value} (h : RadioAt w p F []) (hx : Rd w elTele x l) (hl : l.length ≤ 1024) :
    Calls Try.prog 10 #[.pointer (some ⟨p, 0, none⟩), x] w fun e w' =>
      e = .returned (.int .i64 (l.length : Int)) ∧ RadioAt w' p (grow F w w') l ∧ Mod F w w' := by
  refine (send_calls h (Nat.zero_le _) hx (by omega)).mono ?_
  rintro e w' ⟨rfl, h2, h3⟩
  rw [List.nil_append, List.take_of_length_le (by simpa using hl)] at h2
  exact ⟨by rw [Nat.min_eq_left (by simpa using hl)], h2, h3⟩

theorem sendNone_calls {p : Nat} {F : Nat → Prop} {w : World} {x : Value} (h : RadioAt w p F []) (hx : Rd w elTele x []) :
    Calls Try.prog 10 #[.pointer (some ⟨p, 0, none⟩), x] w fun e w' =>
      e = .returned (.int .i64 0) ∧ RadioAt w' p (grow F w w') [] ∧ Mod F w w' := sendAll_calls h hx (Nat.zero_le _)

/-- What is left behind a Hear. -/
def left (keep : Bool) (l : List Tele) (k : Nat) : List Tele := if keep then l else l.eraseIdx k

theorem hear_any {p : Nat} {F : Nat → Prop} {l : List Tele} {t : Tele} {k : Nat} {w : World} (i : Int) (keep : Bool) (h : RadioAt w p F l) (h0 : 0 < l.length) (hl : l.length ≤ 1024) (hk : i % (l.length : Int) = k) (ht : l[k]? = some t) :
    Calls Try.prog 12 #[.pointer (some ⟨p, 0, none⟩), .int .i64 i, .bool keep] w fun e w' =>
      e = .returned (.tuple #[.agg t.cells.toArray, .bool true]) ∧ RadioAt w' p F (left keep l k) ∧ Mod F w w' := by
  cases keep with
  | true => exact (hearK_calls i h h0 hl hk ht).mono fun e w' ⟨he, hm⟩ => ⟨he, h.mod hm fun _ _ h => h, hm.mono fun _ h => h.elim⟩
  | false => exact hearD_calls i h h0 hl hk ht

set_option maxHeartbeats 1000000 in
theorem order_many {v : Value} {l : List Tele} {w : World} (i : Int) (keep : Bool) (most : Int) (hv : Rd w elTele v l) (hl : 200 < l.length) :
    Calls Try.prog 7 #[v, .int .i64 i, .bool keep, .int .i64 most] w fun e w' => e = .returned (.bool true) ∧ Mod none' w w' := by
  obtain ⟨ad, c, rfl⟩ := hv.vee
  have hd : decide ((200 : Int) < (l.length : Int)) = true := decide_eq_true (by omega)
  go_enter Try.func7, Try.ntmps7
  go_wp2_with (first
    | (go_at_call 13; go_must (refine (awake_calls _).mono ?_; rintro e w2 ⟨rfl, hm2⟩)))
  go_ret
  exact ⟨rfl, hm2⟩

set_option maxHeartbeats 2000000 in
theorem order_none {v : Value} {w : World} (i : Int) (keep : Bool) (most : Int) (hv : Rd w elTele v []) :
    Calls Try.prog 7 #[v, .int .i64 i, .bool keep, .int .i64 most] w fun e w' => e = .returned (.bool true) ∧ Mod none' w w' := by
  obtain ⟨ad, c, rfl⟩ : ∃ ad c, v = .slice ad 0 c := hv.vee
  have hz := Lib.hid (show cellsEq teleZ.cells teleZ.cells = true by rw [Tele.eq]; simp)
  go_enter Try.func7, Try.ntmps7
  go_wp2_with (first
    | (go_at_call 13; go_must (refine (awake_calls _).mono ?_; rintro e w9 ⟨rfl, hm9⟩))
    | (go_at_call 9; go_must (refine (new_calls _).mono ?_; rintro e w1 ⟨p, rfl, hp, hR1, hm1⟩))
    | (refine wl_at (o := ⟨some 29, _, _, _, _, _⟩) ?_
       go_must (refine wl_app (xs := []) (ys := []) teleTy (Ow.nil _ _ _) (hv.mod hm1 fun _ _ h => h) rfl rfl rfl rfl (by simp) (by simp) ?_
                intro ad2 n2 c2 w2 ho2 hm2 hf2
                have hR2 := hR1.mod hm2 fun b _ h => by cases h))
    | (go_at_call 10
       go_must (refine (sendNone_calls hR2 ho2.rd).mono ?_
                rintro e w3 ⟨rfl, hR3, hm3⟩))
    | (go_at_call 12
       go_must (refine (hear0_calls i keep hR3).mono ?_
                rintro e w4 ⟨rfl, hm4⟩
                have hR4 := hR3.mod hm4 fun _ _ h => h))
    | (refine wl_at (o := ⟨some 10, _, _, _, _, _⟩) ?_
       go_must (refine wl_alloc (z := .agg teleZ.cells.toArray) (zs := teleZ.cells) rfl rfl (by kernel_rfl) rfl ?_
                intro w5 b5 h5 hB5 hm5))
    | (refine wl_at (o := ⟨none, .store 33 _ _, _, _, _, _⟩) ?_
       go_must (refine wl_storeW (vs := teleZ.cells) rfl rfl rfl rfl (by kernel_rfl) rfl (Tele.one _) hB5 rfl ?_
                intro w6 hB6 hm6
                have hm56 : Mod none' w4 w6 := hm5.drop hm6 fun b hb => .inr (by cases hb; exact h5)
                have hR6 := hR4.mod hm56 fun _ _ h => h))
    | (refine wl_at (o := ⟨some 48, _, _, _, _, _⟩) ?_
       go_must (refine wl_loadS rfl rfl rfl (by kernel_rfl) rfl hB6.at0 ?_))
    | (refine wl_at (o := ⟨some 49, _, _, _, _, _⟩) ?_
       go_must (refine wl_val (v := .agg teleZ.cells.toArray) (w' := w6) rfl (by kernel_rfl) ?_))
    | (refine wl_at (o := ⟨some 50, _, _, _, _, _⟩) ?_
       go_must (refine wl_eqlS (xs := teleZ.cells) (ys := teleZ.cells) rfl rfl rfl rfl teleEqB (Tele.ks _) (Tele.ks _) ?_
                rw [hz.out]))
    | (go_at_call 14
       go_must (refine (lose0_calls i hR6).mono ?_
                rintro e w7 ⟨rfl, hm7⟩)))
  go_ret
  have hM3 : Mod none' w w3 := (hm1.trans (hm2.mono fun _ h => by cases h)).drop hm3 fun b hb => .inr (by cases hb; exact hp)
  exact ⟨rfl, (((hM3.trans hm4).trans hm56).trans hm7).trans hm9⟩

theorem left_len (keep : Bool) (l : List Tele) (k : Nat) : (left keep l k).length ≤ l.length := by
  unfold left
  split
  · omega
  · exact List.length_eraseIdx_le l k

set_option maxHeartbeats 4000000 in
theorem order_some {v : Value} {l : List Tele} {w : World} (i : Int) (keep : Bool) (most : Int) (hv : Rd w elTele v l) (h0 : 0 < l.length) (hl : l.length ≤ 200) :
    Calls Try.prog 7 #[v, .int .i64 i, .bool keep, .int .i64 most] w fun e w' => e = .returned (.bool true) ∧ Mod none' w w' := by
  obtain ⟨ad, c, rfl⟩ := hv.vee
  have hd : decide ((200 : Int) < (l.length : Int)) = false := decide_eq_false (by omega)
  have hne : ((l.length : Int) == 0) = false := beq_eq_false_iff_ne.2 (by omega)
  obtain ⟨k, hk, hkl⟩ : ∃ k : Nat, i % (l.length : Int) = k ∧ k < l.length := by
    have := Int.emod_nonneg i (b := (l.length : Int)) (by omega)
    have := Int.emod_lt_of_pos i (b := (l.length : Int)) (by omega)
    exact ⟨(i % (l.length : Int)).toNat, by omega, by omega⟩
  obtain ⟨t, ht⟩ : ∃ t, l[k]? = some t := ⟨_, List.getElem?_eq_getElem hkl⟩
  obtain ⟨m, hn, hm19⟩ : ∃ m : Nat, most % 20 = m ∧ m ≤ 19 := by
    have := Int.emod_nonneg most (b := 20) (by omega)
    have := Int.emod_lt_of_pos most (b := 20) (by omega)
    exact ⟨(most % 20).toNat, by omega, by omega⟩
  have HHear := Lib.hid (fun (W : World) (p : Nat) (F : Nat → Prop) (h : RadioAt W p F l) => hear_any i keep h h0 (by omega) hk ht)
  have HPl := Lib.hid (fun (W : World) => (Place_calls i (l.length : Int) W (by omega) (by omega)).mono (R' := fun e w' => e = .returned (.int .i64 (k : Int)) ∧ W = w') fun e w' h => by rw [← hk]; exact h)
  have HPm := Lib.hid (fun (W : World) => (Place_calls most 20 W (by omega) (by omega)).mono (R' := fun e w' => e = .returned (.int .i64 (m : Int)) ∧ W = w') fun e w' h => by rw [← hn]; exact h)
  have HT := Lib.hid ht
  have hww := left_len keep l k
  obtain ⟨want, hwant⟩ : ∃ want, want = left keep l k := ⟨_, rfl⟩
  have HW := Lib.hid hwant
  rw [← hwant] at hww
  have hg := fun (W : World) (p : Nat) (F : Nat → Prop) (h : RadioAt W p F want) => gather_calls 1000 h (by omega) (by omega)
  rw [show want.take (1000 : Int).toNat = want from List.take_of_length_le (by simp; omega)] at hg
  have HG := Lib.hid hg
  have hg2 := fun (W : World) (p : Nat) (F : Nat → Prop) (h : RadioAt W p F want) => gather_calls (1 + (m : Int)) h (by omega) (by omega)
  rw [show (1 + (m : Int)).toNat = 1 + m by omega] at hg2
  have HG2 := Lib.hid hg2
  have hce := Lib.hid (show cellsEq t.cells t.cells = true by rw [Tele.eq]; simp)
  have hcut : left false l k = (l.drop 0).take k ++ (l.drop (k + 1)).take (l.length - (k + 1)) := by
    show l.eraseIdx k = _
    rw [List.eraseIdx_eq_take_drop_succ, List.drop_zero, List.take_of_length_le (l := l.drop (k + 1)) (by simp)]
  have HC := Lib.hid hcut
  have hmin : ((min (1 + (m : Int)) (want.length : Int))) = ((min (1 + m) want.length : Nat) : Int) := by omega
  have HM := Lib.hid hmin
  have HS1 := Lib.hid (fun (W : World) (va vb : Value) (ha : Rd W elTele va want) (hb : Rd W elTele vb want) => (same_calls want want va vb W ha hb (by omega)).mono (R' := fun e w' => e = .returned (.bool true) ∧ Mod none' W w') fun e w' h => by simpa using h)
  have htl : (want.take (1 + m)).length ≤ 9223372036854775807 := by rw [List.length_take]; omega
  have HS2 := Lib.hid (fun (W : World) (va vb : Value) (ha : Rd W elTele va (want.take (1 + m))) (hb : Rd W elTele vb (want.take (1 + m))) => (same_calls (want.take (1 + m)) (want.take (1 + m)) va vb W ha hb htl).mono (R' := fun e w' => e = .returned (.bool true) ∧ Mod none' W w') fun e w' h => by simpa using h)
  clear htl
  have HMT := Lib.hid (show (want.drop 0).take (min (1 + m) want.length) = want.take (1 + m) by
    rw [List.drop_zero]
    by_cases hle : 1 + m ≤ want.length
    · rw [Nat.min_eq_left hle]
    · rw [Nat.min_eq_right (by omega), List.take_of_length_le (Nat.le_refl _), List.take_of_length_le (by omega)])
  clear hk ht hn hwant hg hg2 hcut hmin
  cases keep
  case false =>
    go_enter Try.func7, Try.ntmps7
    go_wp2_with (first
      | (go_at_call 9; go_must (refine (new_calls _).mono ?_; rintro e w1 ⟨p, rfl, hp, hR1, hm1⟩))
      | (refine wl_at (o := ⟨some 29, _, _, _, _, _⟩) ?_
         go_must (refine wl_app (xs := []) (ys := l) teleTy (Ow.nil _ _ _) (hv.mod hm1 fun _ _ h => h) rfl rfl rfl rfl (by simp; unfold maxLen; omega) (by simp; omega) ?_
                  intro ad2 n2 c2 w2 ho2 hm2 hf2
                  have hR2 := hR1.mod hm2 fun b _ h => by cases h))
      | (go_at_call 10
         go_must (refine (sendAll_calls (l := l) hR2 ho2.rd (by omega)).mono ?_
                  rintro e w3 ⟨rfl, hR3, hm3⟩))
      | (go_at_call 12
         go_must (refine (HHear.out _ _ _ hR3).mono ?_
                  rintro e w4 ⟨rfl, hR4, hm4⟩
                  have hM3 : Mod none' w w3 := (hm1.trans (hm2.mono fun _ h => by cases h)).drop hm3 fun b hb => .inr (by cases hb; exact hp)
                  have hM4 : Mod none' w w4 := hM3.drop hm4 fun b hb => .inr (by
                    rcases hb with hb | hb
                    · cases hb; exact hp
                    · have := hm1.size; have := hm2.size; omega)
                  rw [← HW.out] at hR4))
      | (refine wl_at (o := ⟨some 10, _, _, _, _, _⟩) ?_
         go_must (refine wl_alloc (z := .agg teleZ.cells.toArray) (zs := teleZ.cells) rfl rfl (by kernel_rfl) rfl ?_
                  intro w5 b5 h5 hB5 hm5))
      | (refine wl_at (o := ⟨none, .store 33 _ _, _, _, _, _⟩) ?_
         go_must (refine wl_storeW (vs := t.cells) rfl rfl rfl rfl (by kernel_rfl) (elTele.len t) (Tele.one _) hB5 rfl ?_
                  intro w6 hB6 hm6
                  have hm56 : Mod none' w4 w6 := hm5.drop hm6 fun b hb => .inr (by cases hb; exact h5)
                  have hR6 := hR4.mod hm56 fun _ _ h => h
                  have hM6 : Mod none' w w6 := hM4.trans hm56))
      | (refine wl_at (o := ⟨some 64, _, _, _, _, _⟩) ?_
         go_must (go_wp2_with fail
                  refine (HPl.out _).mono ?_
                  rintro e w' ⟨rfl, rfl⟩))
      | (refine wl_at (o := ⟨some 83, _, _, _, _, _⟩) ?_
         go_must (go_wp2_with fail
                  refine (HPm.out _).mono ?_
                  rintro e w' ⟨rfl, rfl⟩))
      | (refine wl_at (o := ⟨some 67, _, _, _, _, _⟩) ?_
         go_must (refine wl_sub (l := 0) (h := k) (k := k) rfl rfl rfl (.inl ⟨rfl, rfl⟩) (.inr ⟨_, _, rfl, rfl⟩) teleTy.und teleTy.size (hv.mod (hM6.trans (Mod.drew _)) fun _ _ h => h) (Nat.zero_add _) (by omega) ?_
                  intro ad7 c7 hs7 ho7))
      | (refine wl_at (o := ⟨some 68, _, _, _, _, _⟩) ?_
         go_must (refine wl_app (xs := []) (ys := (l.drop 0).take k) teleTy (Ow.nil _ _ _) hs7 rfl rfl rfl rfl (by simp; unfold maxLen; omega) (by simp; omega) ?_
                  intro ad8 n8 c8 w8 ho8 hm8 hf8))
      | (refine wl_at (o := ⟨some 72, _, _, _, _, _⟩) ?_
         go_must (refine wl_sub (l := k + 1) (h := l.length) (k := l.length - (k + 1)) rfl rfl rfl (.inr ⟨_, _, rfl, rfl⟩) (.inl ⟨rfl, rfl⟩) teleTy.und teleTy.size ((hv.mod (hM6.trans (Mod.drew _)) fun _ _ h => h).mod hm8 fun b _ h => by cases h) (by omega) (Nat.le_refl _) ?_
                  intro ad9 c9 hs9 ho9))
      | (refine wl_at (o := ⟨some 73, _, _, _, _, _⟩) ?_
         go_must (refine wl_app (xs := [] ++ (l.drop 0).take k) (ys := (l.drop (k + 1)).take (l.length - (k + 1))) teleTy ho8 hs9 rfl rfl rfl rfl (by simp; unfold maxLen; omega) (by simp; omega) ?_
                  intro ad10 n10 c10 w10 ho10 hm10 hf10
                  rw [List.nil_append, ← HC.out] at ho10
                  have hM10 : Mod none' w6 w10 := ((Mod.drew w6).trans (hm8.mono fun _ h => by cases h)).drop hm10 fun b hb => .inr (by
                    rcases hf8 b hb with h | h
                    · cases h
                    · exact h)
                  have hR10 := hR6.mod hM10 fun _ _ h => h
                  replace ho10 : Ow w10 33 elTele (.slice ad10 n10 c10) want := by rw [HW.out]; exact ho10
                  obtain rfl : n10 = want.length := Rd.n ho10.rd))
      | (refine wl_at (o := ⟨some 79, _, _, _, _, _⟩) ?_
         go_must (go_wp2_with fail
                  refine (HG.out _ _ _ hR10).mono ?_
                  rintro e w11 ⟨va, rfl, hva, hm11⟩
                  have hR11 := hR10.mod hm11 fun _ _ h => h))
      | (refine wl_at (o := ⟨some 88, _, _, _, _, _⟩) ?_
         go_must (go_wp2_with fail
                  refine (HG2.out _ _ _ hR11).mono ?_
                  rintro e w12 ⟨vb, rfl, hvb, hm12⟩
                  have hM1012 : Mod none' w10 w12.drew := (hm11.trans hm12).trans (Mod.drew _)
                  have hB12 := (hB6.mod hM10 fun h => h).mod hM1012 fun h => h
                  have hv12 := ((hv.mod hM6 fun _ _ h => h).mod hM10 fun _ _ h => h).mod hM1012 fun _ _ h => h
                  have ho12 := ho10.rd.mod hM1012 fun _ _ h => h
                  have hva12 := hva.mod (hm12.trans (Mod.drew _)) fun _ _ h => h))
      | (refine wl_at (o := ⟨some 93, _, _, _, _, _⟩) ?_
         go_must (refine wl_loadS rfl rfl rfl (by kernel_rfl) (elTele.len t) hB12.at0 ?_))
      | (refine wl_at (o := ⟨some 96, _, _, _, _, _⟩) ?_
         go_must (refine wl_ix rfl rfl rfl rfl teleTy.und teleTy.size hv12 HT.out ?_
                  intro b7 k7 hat7 hbk7))
      | (refine wl_at (o := ⟨some 97, _, _, _, _, _⟩) ?_
         go_must (refine wl_loadS rfl rfl rfl (by kernel_rfl) (elTele.len t) hat7 ?_))
      | (refine wl_at (o := ⟨some 98, _, _, _, _, _⟩) ?_
         go_must (refine wl_eqlS (xs := t.cells) (ys := t.cells) rfl rfl rfl rfl teleEqB (Tele.ks _) (Tele.ks _) ?_
                  rw [hce.out]))
      | (go_at_call 19
         go_must (first
           | (refine (HS2.out _ _ _ hvb13 hs14).mono ?_
              rintro e w14 ⟨rfl, hm14⟩)
           | (refine (HS1.out _ _ _ hva12 ho12).mono ?_
              rintro e w13 ⟨rfl, hm13⟩
              have ho13 := ho12.mod hm13 fun _ _ h => h
              have hvb13 := (hvb.mod (Mod.drew _) fun _ _ h => h).mod hm13 fun _ _ h => h)))
      | (refine wl_at (o := ⟨some 118, _, _, _, _, _⟩) ?_
         go_must (refine wl_sub (l := 0) (h := min (1 + m) want.length) (k := min (1 + m) want.length) rfl rfl rfl (.inl ⟨rfl, rfl⟩) (.inr ⟨_, _, rfl, (by have := HM.out; omega)⟩) teleTy.und teleTy.size ho13 (Nat.zero_add _) (Nat.min_le_right _ _) ?_
                  intro ad14 c14 hs14 ho14
                  rw [HMT.out] at hs14))
      | (go_at_call 13; go_must (refine (awake_calls _).mono ?_; rintro e w15 ⟨rfl, hm15⟩))
      | (refine wp_region_text (by kernel_rfl) (by kernel_rfl) ?_)
      | (refine atEnd_mk (by kernel_rfl) ?_))
    all_goals
      go_ret
      exact ⟨rfl, ((((hM6.trans hM10).trans hM1012).trans hm13).trans hm14).trans hm15⟩
  case true =>
    go_enter Try.func7, Try.ntmps7
    go_wp2_with (first
      | (go_at_call 9; go_must (refine (new_calls _).mono ?_; rintro e w1 ⟨p, rfl, hp, hR1, hm1⟩))
      | (refine wl_at (o := ⟨some 29, _, _, _, _, _⟩) ?_
         go_must (refine wl_app (xs := []) (ys := l) teleTy (Ow.nil _ _ _) (hv.mod hm1 fun _ _ h => h) rfl rfl rfl rfl (by simp; unfold maxLen; omega) (by simp; omega) ?_
                  intro ad2 n2 c2 w2 ho2 hm2 hf2
                  have hR2 := hR1.mod hm2 fun b _ h => by cases h))
      | (go_at_call 10
         go_must (refine (sendAll_calls (l := l) hR2 ho2.rd (by omega)).mono ?_
                  rintro e w3 ⟨rfl, hR3, hm3⟩))
      | (go_at_call 12
         go_must (refine (HHear.out _ _ _ hR3).mono ?_
                  rintro e w4 ⟨rfl, hR4, hm4⟩
                  have hM3 : Mod none' w w3 := (hm1.trans (hm2.mono fun _ h => by cases h)).drop hm3 fun b hb => .inr (by cases hb; exact hp)
                  have hM4 : Mod none' w w4 := hM3.drop hm4 fun b hb => .inr (by
                    rcases hb with hb | hb
                    · cases hb; exact hp
                    · have := hm1.size; have := hm2.size; omega)
                  rw [← HW.out] at hR4))
      | (refine wl_at (o := ⟨some 10, _, _, _, _, _⟩) ?_
         go_must (refine wl_alloc (z := .agg teleZ.cells.toArray) (zs := teleZ.cells) rfl rfl (by kernel_rfl) rfl ?_
                  intro w5 b5 h5 hB5 hm5))
      | (refine wl_at (o := ⟨none, .store 33 _ _, _, _, _, _⟩) ?_
         go_must (refine wl_storeW (vs := t.cells) rfl rfl rfl rfl (by kernel_rfl) (elTele.len t) (Tele.one _) hB5 rfl ?_
                  intro w6 hB6 hm6
                  have hm56 : Mod none' w4 w6 := hm5.drop hm6 fun b hb => .inr (by cases hb; exact h5)
                  have hR6 := hR4.mod hm56 fun _ _ h => h
                  have hM6 : Mod none' w w6 := hM4.trans hm56))
      | (refine wl_at (o := ⟨some 64, _, _, _, _, _⟩) ?_
         go_must (go_wp2_with fail
                  refine (HPl.out _).mono ?_
                  rintro e w' ⟨rfl, rfl⟩))
      | (refine wl_at (o := ⟨some 83, _, _, _, _, _⟩) ?_
         go_must (go_wp2_with fail
                  refine (HPm.out _).mono ?_
                  rintro e w' ⟨rfl, rfl⟩))
      | (refine wl_at (o := ⟨some 67, _, _, _, _, _⟩) ?_
         go_must (refine wl_sub (l := 0) (h := k) (k := k) rfl rfl rfl (.inl ⟨rfl, rfl⟩) (.inr ⟨_, _, rfl, rfl⟩) teleTy.und teleTy.size (hv.mod (hM6.trans (Mod.drew _)) fun _ _ h => h) (Nat.zero_add _) (by omega) ?_
                  intro ad7 c7 hs7 ho7))
      | (refine wl_at (o := ⟨some 68, _, _, _, _, _⟩) ?_
         go_must (refine wl_app (xs := []) (ys := (l.drop 0).take k) teleTy (Ow.nil _ _ _) hs7 rfl rfl rfl rfl (by simp; unfold maxLen; omega) (by simp; omega) ?_
                  intro ad8 n8 c8 w8 ho8 hm8 hf8))
      | (refine wl_at (o := ⟨some 72, _, _, _, _, _⟩) ?_
         go_must (refine wl_sub (l := k + 1) (h := l.length) (k := l.length - (k + 1)) rfl rfl rfl (.inr ⟨_, _, rfl, rfl⟩) (.inl ⟨rfl, rfl⟩) teleTy.und teleTy.size ((hv.mod (hM6.trans (Mod.drew _)) fun _ _ h => h).mod hm8 fun b _ h => by cases h) (by omega) (Nat.le_refl _) ?_
                  intro ad9 c9 hs9 ho9))
      | (refine wl_at (o := ⟨some 73, _, _, _, _, _⟩) ?_
         go_must (refine wl_app (xs := [] ++ (l.drop 0).take k) (ys := (l.drop (k + 1)).take (l.length - (k + 1))) teleTy ho8 hs9 rfl rfl rfl rfl (by simp; unfold maxLen; omega) (by simp; omega) ?_
                  intro ad9' n9' c9' w9 ho9' hm9 hf9
                  have hM9 : Mod none' w6 w9 := ((Mod.drew w6).trans (hm8.mono fun _ h => by cases h)).drop hm9 fun b hb => .inr (by
                    rcases hf8 b hb with h | h
                    · cases h
                    · exact h)))
      | (refine wl_at (o := ⟨some 76, _, _, _, _, _⟩) ?_
         go_must (refine wl_app (xs := []) (ys := l) teleTy (Ow.nil _ _ _) ((hv.mod hM6 fun _ _ h => h).mod hM9 fun _ _ h => h) rfl rfl rfl rfl (by simp; unfold maxLen; omega) (by simp; omega) ?_
                  intro ad10 n10 c10 w10 ho10 hm10 hf10
                  rw [List.nil_append] at ho10
                  have hM10 : Mod none' w6 w10 := hM9.trans (hm10.mono fun _ h => by cases h)
                  have hR10 := hR6.mod hM10 fun _ _ h => h
                  replace ho10 : Ow w10 33 elTele (.slice ad10 n10 c10) want := by rw [HW.out]; exact ho10
                  obtain rfl : n10 = want.length := Rd.n ho10.rd))
      | (refine wl_at (o := ⟨some 79, _, _, _, _, _⟩) ?_
         go_must (go_wp2_with fail
                  refine (HG.out _ _ _ hR10).mono ?_
                  rintro e w11 ⟨va, rfl, hva, hm11⟩
                  have hR11 := hR10.mod hm11 fun _ _ h => h))
      | (refine wl_at (o := ⟨some 88, _, _, _, _, _⟩) ?_
         go_must (go_wp2_with fail
                  refine (HG2.out _ _ _ hR11).mono ?_
                  rintro e w12 ⟨vb, rfl, hvb, hm12⟩
                  have hM1012 : Mod none' w10 w12.drew := (hm11.trans hm12).trans (Mod.drew _)
                  have hB12 := (hB6.mod hM10 fun h => h).mod hM1012 fun h => h
                  have hv12 := ((hv.mod hM6 fun _ _ h => h).mod hM10 fun _ _ h => h).mod hM1012 fun _ _ h => h
                  have ho12 := ho10.rd.mod hM1012 fun _ _ h => h
                  have hva12 := hva.mod (hm12.trans (Mod.drew _)) fun _ _ h => h))
      | (refine wl_at (o := ⟨some 93, _, _, _, _, _⟩) ?_
         go_must (refine wl_loadS rfl rfl rfl (by kernel_rfl) (elTele.len t) hB12.at0 ?_))
      | (refine wl_at (o := ⟨some 96, _, _, _, _, _⟩) ?_
         go_must (refine wl_ix rfl rfl rfl rfl teleTy.und teleTy.size hv12 HT.out ?_
                  intro b7 k7 hat7 hbk7))
      | (refine wl_at (o := ⟨some 97, _, _, _, _, _⟩) ?_
         go_must (refine wl_loadS rfl rfl rfl (by kernel_rfl) (elTele.len t) hat7 ?_))
      | (refine wl_at (o := ⟨some 98, _, _, _, _, _⟩) ?_
         go_must (refine wl_eqlS (xs := t.cells) (ys := t.cells) rfl rfl rfl rfl teleEqB (Tele.ks _) (Tele.ks _) ?_
                  rw [hce.out]))
      | (go_at_call 19
         go_must (first
           | (refine (HS2.out _ _ _ hvb13 hs14).mono ?_
              rintro e w14 ⟨rfl, hm14⟩)
           | (refine (HS1.out _ _ _ hva12 ho12).mono ?_
              rintro e w13 ⟨rfl, hm13⟩
              have ho13 := ho12.mod hm13 fun _ _ h => h
              have hvb13 := (hvb.mod (Mod.drew _) fun _ _ h => h).mod hm13 fun _ _ h => h)))
      | (refine wl_at (o := ⟨some 118, _, _, _, _, _⟩) ?_
         go_must (refine wl_sub (l := 0) (h := min (1 + m) want.length) (k := min (1 + m) want.length) rfl rfl rfl (.inl ⟨rfl, rfl⟩) (.inr ⟨_, _, rfl, (by have := HM.out; omega)⟩) teleTy.und teleTy.size ho13 (Nat.zero_add _) (Nat.min_le_right _ _) ?_
                  intro ad14 c14 hs14 ho14
                  rw [HMT.out] at hs14))
      | (go_at_call 13; go_must (refine (awake_calls _).mono ?_; rintro e w15 ⟨rfl, hm15⟩))
      | (refine wp_region_text (by kernel_rfl) (by kernel_rfl) ?_)
      | (refine atEnd_mk (by kernel_rfl) ?_))
    all_goals
      go_ret
      exact ⟨rfl, ((((hM6.trans hM10).trans hM1012).trans hm13).trans hm14).trans hm15⟩

theorem order_calls {v : Value} {l : List Tele} {w : World} (i : Int) (keep : Bool) (most : Int) (hv : Rd w elTele v l) :
    Calls Try.prog 7 #[v, .int .i64 i, .bool keep, .int .i64 most] w fun e w' => e = .returned (.bool true) ∧ Mod none' w w' := by
  by_cases h0 : l = []
  · subst h0
    exact order_none i keep most hv
  · by_cases h1 : 200 < l.length
    · exact order_many i keep most hv h1
    · exact order_some i keep most hv (List.length_pos_iff.2 h0) (by omega)
end Go.Proofs.Ythbhbklbhfadnaa
