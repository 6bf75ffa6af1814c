/- The reference's radio: what its calls do to it. -/
import Derived.Test.YthbhbklbhfadnaaRad3
import Derived.Test.YthbhbklbhfadnaaSkNest
namespace Go.Proofs.Ythbhbklbhfadnaa
open Go Go.Sk Go.RowKit

/-- The reference's radio at block q of w, with the blocks G of its own, has the telegrams l under way. -/
def RefAt (w : World) (q : Nat) (G : Nat → Prop) (l : List Tele) : Prop :=
  G q ∧ (∀ b, G b → b < w.heap.size) ∧ ∃ v, Blk w q [v] 47 ∧ Ow w 33 elTele v l ∧ ∀ b, v.ownBlock = some b → G b ∧ b ≠ q

theorem RefAt.mod {w w' : World} {p : Nat} {F G : Nat → Prop} {l : List Tele} (h : RefAt w p F l) (m : Mod G w w') (hG : ∀ b, F b → ¬ G b) : RefAt w' p F l := by
  obtain ⟨h1, h2, v, h3, h4, h5⟩ := h
  exact ⟨h1, fun b hb => Nat.lt_of_lt_of_le (h2 b hb) m.size, v, h3.mod m (hG p h1), h4.mod m fun b hb => hG b (h5 b hb).1, h5⟩

theorem RefAt.widen {w : World} {p : Nat} {F F' : Nat → Prop} {l : List Tele} (h : RefAt w p F l) (hs : ∀ b, F b → F' b) (hl : ∀ b, F' b → b < w.heap.size) : RefAt w p F' l := by
  obtain ⟨h1, h2, v, h3, h4, h5⟩ := h
  exact ⟨hs _ h1, hl, v, h3, h4, fun b hb => ⟨hs _ (h5 b hb).1, (h5 b hb).2⟩⟩

set_option maxHeartbeats 400000 in
theorem refPlace_cell {p n c : Nat} {ad : Option Addr} {w : World} (i : Int) (hc : w.cell? ⟨p, 0, none⟩ = some (.slice ad n c)) (h0 : 0 < n) (hl : n ≤ 1024) :
    Calls Try.prog 22 #[.pointer (some ⟨p, 0, none⟩), .int .i64 i] w fun e w' => e = .returned (.int .i64 (i % (n : Int))) ∧ w' = w := by
  have hb := tmod_bd i (n : Int) (by omega)
  have hne : ((n : Int) == 0) = false := beq_eq_false_iff_ne.2 (by omega)
  by_cases hs : i.tmod (n : Int) < 0
  · have he := Lib.hid (tmod_neg i (n : Int) (by omega) hs)
    have hd : decide (i.tmod (n : Int) < 0) = true := decide_eq_true hs
    go_enter Try.func22, Try.ntmps22
    go_wp2
    go_ret
    refine ⟨?_, rfl⟩
    rw [← he.out]
    simp
  · have he := Lib.hid (tmod_pos i (n : Int) (by omega) (by omega))
    have hd : decide (i.tmod (n : Int) < 0) = false := decide_eq_false hs
    go_enter Try.func22, Try.ntmps22
    go_wp2
    go_ret
    refine ⟨?_, rfl⟩
    rw [← he.out]
    simp

theorem refPlace_calls {p : Nat} {F : Nat → Prop} {l : List Tele} {w : World} (i : Int) (h : RefAt w p F l) (h0 : 0 < l.length) (hl : l.length ≤ 1024) :
    Calls Try.prog 22 #[.pointer (some ⟨p, 0, none⟩), .int .i64 i] w fun e w' => e = .returned (.int .i64 (i % (l.length : Int))) ∧ w = w' := by
  obtain ⟨_, _, v, hB, hO, _⟩ := h
  obtain ⟨ad, c, rfl⟩ := hO.vee
  exact (refPlace_cell i (hB.cell 0) h0 hl).mono fun e w' ⟨h1, h2⟩ => ⟨h1, h2.symm⟩

set_option maxHeartbeats 1000000 in
theorem refLose0_calls {q : Nat} {G : Nat → Prop} {w : World} (i : Int) (h : RefAt w q G []) :
    Calls Try.prog 17 #[.pointer (some ⟨q, 0, none⟩), .int .i64 i] w fun e w' => e = .returned (.bool false) ∧ w = w' := by
  obtain ⟨_, _, v, hB, hO, _⟩ := h
  obtain ⟨ad, c, rfl⟩ : ∃ ad c, v = .slice ad 0 c := hO.vee
  have hc : w.cell? ⟨q, 0, none⟩ = some (.slice ad 0 c) := hB.cell 0
  go_enter Try.func17, Try.ntmps17
  go_wp2
  go_ret
  exact ⟨rfl, rfl⟩

set_option maxHeartbeats 3000000 in
theorem refLose_calls {q : Nat} {G : Nat → Prop} {l : List Tele} {k : Nat} {w : World} (i : Int) (h : RefAt w q G l) (h0 : 0 < l.length) (hl : l.length ≤ 1024) (hk : i % (l.length : Int) = k) (hkl : k < l.length) :
    Calls Try.prog 17 #[.pointer (some ⟨q, 0, none⟩), .int .i64 i] w fun e w' => e = .returned (.bool true) ∧ RefAt w' q (grow G w w') (l.eraseIdx k) ∧ Mod G w w' := by
  have HP := Lib.hid (show Calls Try.prog 22 #[.pointer (some ⟨q, 0, none⟩), .int .i64 i] w fun e w' => e = .returned (.int .i64 (k : Int)) ∧ w = w' by
    rw [← hk]; exact refPlace_calls i h h0 hl)
  clear hk
  obtain ⟨hG, hGl, v, hB, hO, hv⟩ := h
  obtain ⟨ad, c, rfl⟩ := hO.vee
  have hc : w.cell? ⟨q, 0, none⟩ = some (.slice ad l.length c) := hB.cell 0
  have hne : ((l.length : Int) == 0) = false := beq_eq_false_iff_ne.2 (by omega)
  have hcut : l.eraseIdx k = (l.drop 0).take k ++ (l.drop (k + 1)).take (l.length - (k + 1)) := by
    rw [List.eraseIdx_eq_take_drop_succ, List.drop_zero, List.take_of_length_le (l := l.drop (k + 1)) (by simp)]
  have HC := Lib.hid hcut
  clear hcut
  have hq := hGl q hG
  go_enter Try.func17, Try.ntmps17
  go_wp2_with (first
    | (go_at_call 22; go_must (refine HP.out.mono ?_; rintro e w' ⟨rfl, rfl⟩))
    | (refine wl_at (o := ⟨some 21, _, _, _, _, _⟩) ?_
       go_must (refine wl_sub (l := 0) (h := k) (k := k) rfl rfl rfl (.inl ⟨rfl, rfl⟩) (.inr ⟨_, _, rfl, rfl⟩) teleTy.und teleTy.size (hO.rd.mod (Mod.drew (F := none') _) fun _ _ h => h) (Nat.zero_add _) (by omega) ?_
                intro ad7 c7 hs7 ho7))
    | (refine wl_at (o := ⟨some 22, _, _, _, _, _⟩) ?_
       go_must (refine wl_app (xs := []) (ys := (l.drop 0).take k) teleTy (Ow.nil _ _ _) hs7 rfl rfl rfl rfl (by simp; unfold maxLen; omega) (by simp; omega) ?_
                intro ad8 n8 c8 w8 ho8 hm8 hf8
                have hM8 : Mod none' w w8 := (Mod.drew w).trans (hm8.mono fun _ h => by cases h)
                have hB8 := hB.mod hM8 fun h => h
                have hc8 : w8.cell? ⟨q, 0, none⟩ = some (.slice ad l.length c) := hB8.cell 0))
    | (refine wl_at (o := ⟨some 29, _, _, _, _, _⟩) ?_
       go_must (refine wl_sub (l := k + 1) (h := l.length) (k := l.length - (k + 1)) rfl rfl rfl (.inr ⟨_, _, rfl, rfl⟩) (.inl ⟨rfl, rfl⟩) teleTy.und teleTy.size (hO.rd.mod hM8 fun _ _ h => h) (by omega) (Nat.le_refl _) ?_
                intro ad9 c9 hs9 ho9))
    | (refine wl_at (o := ⟨some 30, _, _, _, _, _⟩) ?_
       go_must (refine wl_app (xs := [] ++ (l.drop 0).take k) (ys := (l.drop (k + 1)).take (l.length - (k + 1))) teleTy ho8 hs9 rfl rfl rfl rfl (by simp; unfold maxLen; omega) (by simp; omega) ?_
                intro ad10 n10 c10 w10 ho10 hm10 hf10
                rw [List.nil_append, ← HC.out] at ho10
                have hnew : ∀ b, (Value.slice ad8 n8 c8).ownBlock = some b → w.heap.size ≤ b := fun b hb => by
                  rcases hf8 b hb with h | h
                  · cases h
                  · exact h
                have hM10 : Mod none' w w10 := hM8.drop hm10 fun b hb => .inr (hnew b hb)
                have hB10 := hB.mod hM10 fun h => h
                have hc10 : w10.cell? ⟨q, 0, none⟩ = some (.slice ad l.length c) := hB10.cell 0))
    | (refine wl_at (o := ⟨none, .store 35 _ _, _, _, _, _⟩) ?_
       go_must (refine wl_store (v := .slice ad10 n10 c10) rfl rfl rfl rfl (by kernel_rfl) rfl hB10 (by simp) ?_
                intro w11 hB11 hm11))
    | (refine wp_region_last [11] (fun W => W.cell? ⟨q, 0, none⟩ = some (.slice ad l.length c)) (by kernel_rfl) (by kernel_rfl) hc (fun _ _ h => cell_alloc h) (by kernel_rfl) ?_
       simp only [List.dropLast])
    | (refine wpC_of ?_)
    | (refine atEndC (by first | exact hc10 | exact hc8 | exact hc) ?_)
    | (refine wpC_nil ⟨by kernel_rfl, stays_load rfl rfl rfl rfl (by kernel_rfl) rfl (fun _ h => h) stays_nil, ?_⟩
       show wpList _ _ _ [_] _ _))
  go_ret
  have hM11 : Mod G w w11 := (hM10.mono fun _ h => h.elim).trans (hm11.mono fun b hb => by cases hb; exact hG)
  have hnew2 : ∀ b, (Value.slice ad10 n10 c10).ownBlock = some b → w.heap.size ≤ b := fun b hb => by
    rcases hf10 b hb with h | h
    · exact hnew b h
    · exact Nat.le_trans hM8.size h
  refine ⟨rfl, ⟨.inl hG, grow_lt hGl hM11.size, _, hB11, ho10.mod hm11 fun b hb h => ?_, fun b hb => ?_⟩, hM11⟩
  · cases h; have := hnew2 _ hb; omega
  · have h1 := hnew2 b hb
    exact ⟨.inr ⟨h1, Nat.lt_of_lt_of_le (ho10.lt b hb) hm11.size⟩, by omega⟩

set_option maxHeartbeats 1000000 in
theorem refHear0_calls {q : Nat} {G : Nat → Prop} {w : World} (i : Int) (keep : Bool) (h : RefAt w q G []) :
    Calls Try.prog 16 #[.pointer (some ⟨q, 0, none⟩), .int .i64 i, .bool keep] w fun e w' => e = .returned (.tuple #[.agg teleZ.cells.toArray, .bool false]) ∧ Mod none' w w' := by
  obtain ⟨_, _, v, hB, hO, _⟩ := h
  obtain ⟨ad, c, rfl⟩ : ∃ ad c, v = .slice ad 0 c := hO.vee
  go_enter Try.func16, Try.ntmps16
  go_wp2_with (first
    | (refine wl_at (o := ⟨some 6, _, _, _, _, _⟩) ?_
       go_must (refine wl_alloc (z := .agg teleZ.cells.toArray) (zs := teleZ.cells) rfl rfl (by kernel_rfl) rfl ?_
                intro w1 b1 h1 hB1 hm1
                have hc1 : w1.cell? ⟨q, 0, none⟩ = some (.slice ad 0 c) := (hB.mod hm1 fun h => h).cell 0))
    | (refine wl_at (o := ⟨some 15, _, _, _, _, _⟩) ?_
       go_must (refine wl_val (v := .agg teleZ.cells.toArray) (w' := w1) rfl (by kernel_rfl) ?_))
    | (refine wl_at (o := ⟨none, .store 33 _ _, _, _, _, _⟩) ?_
       go_must (refine wl_storeW (vs := teleZ.cells) rfl rfl rfl rfl (by kernel_rfl) rfl (Tele.one _) hB1 rfl ?_
                intro w2 hB2 hm2)))
  exact bodyPost_ret (res_cellS_tmp rfl _ rfl (by kernel_rfl) rfl hB2.at0) rfl ⟨rfl, hm1.drop hm2 fun b hb => .inr (by cases hb; exact h1)⟩

set_option maxHeartbeats 3000000 in
theorem refHear_calls {q : Nat} {G : Nat → Prop} {l : List Tele} {t : Tele} {k : Nat} {w : World} (i : Int) (keep : Bool) (h : RefAt w q G l) (h0 : 0 < l.length) (hl : l.length ≤ 1024) (hk : i % (l.length : Int) = k) (ht : l[k]? = some t) :
    Calls Try.prog 16 #[.pointer (some ⟨q, 0, none⟩), .int .i64 i, .bool keep] w fun e w' => e = .returned (.tuple #[.agg t.cells.toArray, .bool true]) ∧ RefAt w' q (grow G w w') (if keep then l else l.eraseIdx k) ∧ Mod G w w' := by
  have hkl : k < l.length := (List.getElem?_eq_some_iff.1 ht).1
  have HP := Lib.hid (fun (W : World) (h : RefAt W q G l) => show Calls Try.prog 22 #[.pointer (some ⟨q, 0, none⟩), .int .i64 i] W fun e w' => e = .returned (.int .i64 (k : Int)) ∧ W = w' by
    rw [← hk]; exact refPlace_calls i h h0 hl)
  have HPC := Lib.hid (fun (W : World) (ad : Option Addr) (c : Nat) (hc : W.cell? ⟨q, 0, none⟩ = some (.slice ad l.length c)) => show Calls Try.prog 22 #[.pointer (some ⟨q, 0, none⟩), .int .i64 i] W fun e w' => e = .returned (.int .i64 (k : Int)) ∧ w' = W by
    rw [← hk]; exact refPlace_cell i hc h0 hl)
  have HL := Lib.hid (fun (W : World) (h : RefAt W q G l) => refLose_calls i h h0 hl hk hkl)
  have HT := Lib.hid ht
  clear hk ht
  have h' := h
  obtain ⟨hG, hGl, v, hB, hO, hv⟩ := h'
  obtain ⟨ad, c, rfl⟩ := hO.vee
  have hne : ((l.length : Int) == 0) = false := beq_eq_false_iff_ne.2 (by omega)
  cases keep
  all_goals
    go_enter Try.func16, Try.ntmps16
    go_wp2_with (first
      | (refine wl_at (o := ⟨some 6, _, _, _, _, _⟩) ?_
         go_must (refine wl_alloc (z := .agg teleZ.cells.toArray) (zs := teleZ.cells) rfl rfl (by kernel_rfl) rfl ?_
                  intro w1 b1 h1 hB1 hm1
                  have hc1 : w1.cell? ⟨q, 0, none⟩ = some (.slice ad l.length c) := (hB.mod hm1 fun h => h).cell 0
                  have hm1d : Mod none' w w1.drew := hm1.trans (Mod.drew _)
                  have hcd : w1.drew.cell? ⟨q, 0, none⟩ = some (.slice ad l.length c) := (hB.mod hm1d fun h => h).cell 0
                  have hRd := h.mod hm1d fun _ _ h => h
                  have hOd := hO.rd.mod hm1d fun _ _ h => h))
      | (go_at_call 22; go_must (refine (HP.out _ hRd).mono ?_; rintro e w' ⟨rfl, rfl⟩))
      | (refine wl_at (o := ⟨some 23, _, _, _, _, _⟩) ?_
         go_must (refine wl_ix rfl rfl rfl rfl teleTy.und teleTy.size hOd HT.out ?_
                  intro b5 k5 hat5 hbk5))
      | (refine wl_at (o := ⟨some 24, _, _, _, _, _⟩) ?_
         go_must (refine wl_loadS rfl rfl rfl (by kernel_rfl) (elTele.len t) hat5 ?_))
      | (refine wl_at (o := ⟨some 8, _, _, _, _, _⟩) ?_
         go_must (refine wl_alloc (z := .agg teleZ.cells.toArray) (zs := teleZ.cells) rfl rfl (by kernel_rfl) rfl ?_
                  intro w2 b2 h2 hB2 hm2
                  have hcq2 : w2.cell? ⟨q, 0, none⟩ = some (.slice ad l.length c) := (hB.mod (hm1d.trans hm2) fun h => h).cell 0))
      | (refine wl_at (o := ⟨none, .store 33 (.tmp 8) _, _, _, _, _⟩) ?_
         go_must (refine wl_storeW (vs := t.cells) rfl rfl rfl rfl (by kernel_rfl) (elTele.len t) (Tele.one _) hB2 rfl ?_
                  intro w3 hB3 hm3
                  have hM3 : Mod none' w w3 := (hm1d.trans hm2).drop hm3 fun b hb => .inr (by cases hb; have := hm1d.size; omega)
                  have hR3 := h.mod hM3 fun _ _ h => h
                  have hcq3 : w3.cell? ⟨q, 0, none⟩ = some (.slice ad l.length c) := (hB.mod hM3 fun h => h).cell 0
                  have hB13 := (((hB1.mod (Mod.drew (F := none') _) fun h => h).mod hm2 fun h => h).mod hm3 fun h => by cases h; have := hB1.lt; have : w1.drew.heap.size = w1.heap.size := rfl; omega)))
      | (go_at_call 17
         go_must (refine (HL.out _ hR3).mono ?_
                  rintro e w4 ⟨rfl, hR4, hm4⟩))
      | (refine wl_at (o := ⟨some 30, _, _, _, _, _⟩) ?_
         go_must (first
           | (refine wl_loadS rfl rfl rfl (by kernel_rfl) (elTele.len t) (hB3.mod hm4 fun h => by have := hGl _ h; have := hm1d.size; omega).at0 ?_)
           | (refine wl_loadS rfl rfl rfl (by kernel_rfl) (elTele.len t) hB3.at0 ?_)))
      | (refine wl_at (o := ⟨none, .store 33 (.tmp 6) _, _, _, _, _⟩) ?_
         go_must (first
           | (refine wl_storeW (vs := t.cells) rfl rfl rfl rfl (by kernel_rfl) (elTele.len t) (Tele.one _) (hB13.mod hm4 fun h => by have := hGl _ h; omega) rfl ?_
              intro w6 hB6 hm6)
           | (refine wl_storeW (vs := t.cells) rfl rfl rfl rfl (by kernel_rfl) (elTele.len t) (Tele.one _) hB13 rfl ?_
              intro w6 hB6 hm6)))
      | (refine wp_region_stable [3, 6] (fun W => W.cell? ⟨q, 0, none⟩ = some (.slice ad l.length c)) (by kernel_rfl) (by kernel_rfl) hcd (fun _ _ h => cell_alloc h) (by kernel_rfl) ?_)
      | (refine wpC_of ?_)
      | (refine atEndC (by first | exact hcq3 | exact hcq2 | exact hcd) ?_)
      | (refine wpC_nil ⟨by kernel_rfl, stays_load rfl rfl rfl rfl (by kernel_rfl) rfl (fun _ h => h) (stays_call rfl rfl rfl (fun _ => by kernel_rfl) (fun W h => HPC.out W _ _ h) stays_nil), ?_⟩))
  · have hs3 := hM3.size
    have hs1 := hB1.lt
    have hs12 : w1.heap.size ≤ w3.heap.size := Nat.le_trans (show w1.heap.size ≤ w2.heap.size from hm2.size) hm3.size
    have hM6 : Mod G w w6 := ((hM3.mono fun _ h => h.elim).trans hm4).drop hm6 fun b hb => .inr (by cases hb; exact h1)
    refine bodyPost_ret (res_cellS_tmp rfl _ rfl (by kernel_rfl) (elTele.len t) hB6.at0) rfl ⟨rfl, (hR4.mod hm6 fun b hb h => ?_).widen (fun b hb => ?_) (grow_lt hGl hM6.size), hM6⟩
    · cases h
      rcases hb with hb | hb
      · have := hGl _ hb; omega
      · omega
    · rcases hb with hb | hb
      · exact .inl hb
      · exact .inr ⟨by omega, Nat.lt_of_lt_of_le hb.2 hm6.size⟩
  · have hM6 : Mod G w w6 := (hM3.mono (G := G) fun _ h => h.elim).drop hm6 fun b hb => .inr (by cases hb; exact h1)
    refine bodyPost_ret (res_cellS_tmp rfl _ rfl (by kernel_rfl) (elTele.len t) hB6.at0) rfl ⟨rfl, (hR3.mod hm6 fun b hb h => ?_).widen (fun b hb => .inl hb) (grow_lt hGl hM6.size), hM6⟩
    cases h; have := hGl _ hb; omega

/-- At the head of Send's loop: j were taken. -/
def RefSendRel (w : World) (q : Nat) (G : Nat → Prop) (l xs : List Tele) (n i : Value) (wr : World) : Prop :=
  ∃ j : Nat, n = .int .i64 j ∧ i = .int .i64 j ∧ j ≤ xs.length ∧ l.length + j ≤ 1024 ∧ (∃ H, RefAt wr q H (l ++ xs.take j) ∧ (∀ b, H b → G b ∨ w.heap.size ≤ b)) ∧ Mod G w wr

set_option maxHeartbeats 800000 in
set_option maxRecDepth 100000 in
theorem refSend_calls {q : Nat} {G : Nat → Prop} {l xs : List Tele} {w : World} {x : Value} (h : RefAt w q G l) (hl : l.length ≤ 1024) (hx : Rd w elTele x xs) (hxG : xs ≠ [] → ∀ b, x.ownBlock = some b → ¬ G b) (_ : xs.length ≤ 9223372036854775807) :
    Calls Try.prog 15 #[.pointer (some ⟨q, 0, none⟩), x] w fun e w' => e = .returned (.int .i64 (min xs.length (1024 - l.length) : Nat)) ∧ (∃ H, RefAt w' q H (l ++ xs.take (1024 - l.length)) ∧ (∀ b, H b → G b ∨ w.heap.size ≤ b)) ∧ Mod G w w' := by
  obtain ⟨ad2, c2, rfl⟩ := hx.vee
  go_enter Try.func15, Try.ntmps15
  go_wp2_with fail
  go_loopw [5, 6] (fun n i wr => RefSendRel w q G l xs n i wr) (fun _ i _ => xs.length - (intOf i).toNat)
  case atStart => exact ⟨0, rfl, rfl, Nat.zero_le _, by omega, ⟨G, by simpa using h, fun b hb => .inl hb⟩, Mod.refl _ _⟩
  case round =>
    obtain ⟨j, rfl, rfl, hj, hlj, ⟨H, hR, hH⟩, hM⟩ := hrel
    have hlen : (l ++ xs.take j).length = l.length + j := by simp [Nat.min_eq_left hj]
    have HLN := Lib.hid hlen
    have hR' := hR
    obtain ⟨hHq, hHl, v, hB, hO, hv⟩ := hR'
    obtain ⟨ad, c, rfl⟩ : ∃ ad c, v = .slice ad (l.length + j) c := by rw [← hlen]; exact hO.vee
    clear hlen
    have hc : wr.cell? ⟨q, 0, none⟩ = some (.slice ad (l.length + j) c) := hB.cell 0
    by_cases hlt : j < xs.length
    · by_cases hroom : l.length + j < 1024
      · obtain ⟨t, ht⟩ : ∃ t, xs[j]? = some t := ⟨_, List.getElem?_eq_getElem hlt⟩
        have HT := Lib.hid ht
        clear ht
        have hcd : wr.drew.cell? ⟨q, 0, none⟩ = some (.slice ad (l.length + j) c) := hc
        have hxd : Rd wr.drew elTele (.slice ad2 xs.length c2) xs := hx.mod (hM.trans (Mod.drew _)) (hxG (by intro h; subst h; simp at hlt))
        have hOd : Ow wr.drew 33 elTele (.slice ad (l.length + j) c) (l ++ xs.take j) := hO.mod (Mod.drew (F := none') _) fun _ _ h => h
        go_wp2_with (first
          | (refine wl_at (o := ⟨some 28, _, _, _, _, _⟩) ?_
             go_must (refine wl_ix rfl rfl rfl rfl teleTy.und teleTy.size hxd HT.out ?_
                      intro b5 k5 hat5 hbk5))
          | (refine wl_at (o := ⟨some 29, _, _, _, _, _⟩) ?_
             go_must (refine wl_loadS rfl rfl rfl (by kernel_rfl) (elTele.len t) hat5 ?_))
          | (refine wl_at (o := ⟨some 30, _, _, _, _, _⟩) ?_
             go_must (refine wl_buildSlice (e := 33) (cs := flat Tele.cells [t]) rfl rfl (fun W => by kernel_rfl) ?_
                      intro w2 b2 h2 hB2 hm2))
          | (refine wl_at (o := ⟨some 31, _, _, _, _, _⟩) ?_
             go_must (refine wl_app (xs := l ++ xs.take j) (ys := [t]) teleTy (hOd.mod hm2 fun _ _ h => h) (hB2.rd (E := elTele) rfl) rfl rfl rfl rfl (by rw [HLN.out]; simp; unfold maxLen; omega) (by rw [HLN.out]; simp; omega) ?_
                      intro ad4 n4 c4 w4 ho4 hm4 hf4
                      have hM4 : Mod (fun b => (Value.slice ad (l.length + j) c).ownBlock = some b) wr w4 := ((Mod.drew wr).trans (hm2.mono fun _ h => h.elim)).trans hm4))
          | (refine wl_at (o := ⟨none, .store 35 _ _, _, _, _, _⟩) ?_
             go_must (refine wl_store (v := .slice ad4 n4 c4) rfl rfl rfl rfl (by kernel_rfl) rfl (hB.mod hM4 fun h => (hv _ h).2 rfl) (by simp) ?_
                      intro w5 hB5 hm5))
          | (refine wp_region_text (by kernel_rfl) (by kernel_rfl) ?_)
          | (refine atEnd_mk (by kernel_rfl) ?_))
        have hM5 : Mod H wr w5 := (hM4.mono fun b hb => (hv b hb).1).trans (hm5.mono fun b hb => by cases hb; exact hHq)
        have hsz : wr.heap.size ≤ w2.heap.size := hm2.size
        go_roundw
        case rel =>
          have R : RefSendRel w q G l xs (.int .i64 ((j : Int) + 1)) (.int .i64 ((j : Int) + 1)) w5 := by
            refine ⟨j + 1, by go_num, by go_num, by omega, by omega, ⟨grow H wr w5, ⟨.inl hHq, grow_lt hHl hM5.size, _, hB5, ?_, fun b hb => ?_⟩, fun b hb => ?_⟩, hM.drop hM5 hH⟩
            · rw [List.take_add_one, HT.out, ← List.append_assoc]
              refine ho4.mod hm5 fun b hb h => ?_
              cases h
              rcases hf4 _ hb with h | h
              · exact (hv _ h).2 rfl
              · have := hHl _ hHq; omega
            · rcases hf4 b hb with h | h
              · exact ⟨.inl (hv b h).1, (hv b h).2⟩
              · exact ⟨.inr ⟨by omega, Nat.lt_of_lt_of_le (ho4.lt b hb) hm5.size⟩, by have := hHl _ hHq; omega⟩
            · rcases hb with hb | hb
              · exact hH b hb
              · right; have := hM.size; omega
          exact R
        case measure => simp [intOf]; omega
      · have hE : l.length + j = 1024 := by omega
        have hd : decide ((l.length : Int) + (j : Int) < 1024) = false := decide_eq_false (by omega)
        go_wp2_with fail
        go_ret
        refine ⟨by rw [show min xs.length (1024 - l.length) = j by omega]; rfl, ⟨H, ?_, hH⟩, hM⟩
        rw [show 1024 - l.length = j by omega]; exact hR
    · obtain rfl : j = xs.length := by omega
      go_wp2_with fail
      go_ret
      refine ⟨by rw [show min xs.length (1024 - l.length) = xs.length by omega]; rfl, ⟨H, ?_, hH⟩, hM⟩
      rw [List.take_of_length_le (by omega)]
      rw [List.take_of_length_le (Nat.le_refl _)] at hR
      exact hR
end Go.Proofs.Ythbhbklbhfadnaa
