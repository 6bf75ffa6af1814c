/- RadioPlays: the walk. -/
import Derived.Test.YthbhbklbhfadnaaRad6
namespace Go.Proofs.Ythbhbklbhfadnaa
open Go Go.Sk Go.RowKit

theorem opTy : Try.prog.underlying 44 = some (.slice 49) ∧ sizeB Try.prog 49 elOp.sz = true := ⟨Try.underlying44, by kernel_rfl⟩

/-- At the loop's head: both radios hold the same. -/
def PlaysRel (w : World) (ops : List OpV) (p q : Nat) (i : Value) (wr : World) : Prop :=
  ∃ j : Nat, i = .int .i64 j ∧ j ≤ ops.length ∧ ∃ (F G : Nat → Prop) (l : List Tele), RadioAt wr p F l ∧ RefAt wr q G l ∧ l.length ≤ 1024 ∧ (∀ b, F b → w.heap.size ≤ b) ∧ (∀ b, G b → w.heap.size ≤ b) ∧ (∀ b, F b → ¬ G b) ∧ Mod none' w wr

def opZ : List Value := [.int .i64 0, .int .i64 0, .slice none 0 0]

set_option maxHeartbeats 8000000 in
set_option maxRecDepth 100000 in
theorem plays_calls {v : Value} {ops : List OpV} {w : World} (hv : Rd w elOp v ops) (hr : ∀ x ∈ ops, OpReads w x) :
    Calls Try.prog 6 #[v] w fun e w' => e = .returned (.bool true) ∧ Mod none' w w' := by
  obtain ⟨ad, c, rfl⟩ := hv.vee
  have HR := Lib.hid hr
  clear hr
  go_enter Try.func6, Try.ntmps6
  go_wp2_with (first
    | (go_at_call 13; go_must (refine (awake_calls _).mono ?_; rintro e w1 ⟨rfl, hm1⟩))
    | (go_at_call 9; go_must (refine (new_calls _).mono ?_; rintro e w2 ⟨p, rfl, hp, hR2, hm2⟩))
    | (refine wl_at (o := ⟨some 17, _, _, _, _, _⟩) ?_
       go_must (refine wl_val (v := .agg #[.slice none 0 0]) (w' := w2) rfl (by kernel_rfl) ?_))
    | (refine wl_at (o := ⟨some 18, _, _, _, _, _⟩) ?_
       go_must (refine wl_box (v := .agg #[.slice none 0 0]) (zs := [.slice none 0 0]) rfl rfl rfl rfl ?_
                intro w3 q h3 hB3 hm3)))
  go_loopw [2, 5] (fun _ i wr => PlaysRel w ops p q i wr) (fun _ i _ => ops.length - (intOf i).toNat)
  case atStart =>
    have s1 := hm1.size
    have s2 := hm2.size
    have hp2 := hR2.2.1 p rfl
    exact ⟨0, rfl, Nat.zero_le _, only p, only q, [], hR2.mod hm3 fun _ _ h => h, ⟨rfl, fun b hb => by cases hb; exact hB3.lt, _, hB3, Ow.nil _ _ _, fun b hb => by cases hb⟩, Nat.zero_le _, fun b hb => by cases hb; omega, fun b hb => by cases hb; omega, fun b hb hg => by cases hb; cases hg; omega, (hm1.trans hm2).trans hm3⟩
  case round =>
    obtain ⟨j, rfl, hj, F, G, l, hR, hQ, hl, hF, hG, hFG, hM⟩ := hrel
    by_cases hin : j < ops.length ∧ j < 60
    · obtain ⟨hj1, hj6⟩ := hin
      obtain ⟨x, hx⟩ : ∃ x, ops[j]? = some x := ⟨_, List.getElem?_eq_getElem hj1⟩
      have HX := Lib.hid hx
      obtain ⟨lx, hlx, hlm⟩ := HR.out x (List.mem_of_getElem? hx)
      clear hx
      obtain ⟨kd, ki, xad, xn, xc⟩ := x
      obtain rfl : xn = lx.length := Rd.n hlx
      have hv1 := hv.mod hM fun _ _ h => h
      have hlx1 : Rd wr elTele (.slice xad lx.length xc) lx := hlx.mod hM fun _ _ h => h
      by_cases h60 : 60 < lx.length
      · have hd60 : decide ((60 : Int) < (lx.length : Int)) = true := decide_eq_true (by omega)
        go_wp2_with (first
          | (refine wl_at (o := ⟨some 31, _, _, _, _, _⟩) ?_
             go_must (refine wl_ix rfl rfl rfl rfl opTy.1 opTy.2 hv1 HX.out ?_
                      intro b5 k5 hat5 hbk5))
          | (refine wl_at (o := ⟨some 32, _, _, _, _, _⟩) ?_
             go_must (refine wl_loadS rfl rfl rfl (by kernel_rfl) (elOp.len _) hat5 ?_))
          | (refine wl_at (o := ⟨some 6, _, _, _, _, _⟩) ?_
             go_must (refine wl_alloc (z := .agg opZ.toArray) (zs := opZ) rfl rfl (by kernel_rfl) rfl ?_
                      intro w6 b6 h6 hB6 hm6))
          | (refine wl_at (o := ⟨none, .store 49 _ _, _, _, _, _⟩) ?_
             go_must (refine wl_storeW (vs := [.int .i64 kd, .int .i64 ki, .slice xad lx.length xc]) rfl rfl rfl rfl (by kernel_rfl) rfl (elOp.one ⟨kd, ki, xad, lx.length, xc⟩) hB6 rfl ?_
                      intro w7 hB7 hm7
                      have hM7 : Mod none' wr w7 := hm6.drop hm7 fun b hb => .inr (by cases hb; exact h6)
                      have c70 : w7.cell? ⟨b6, 0, none⟩ = some (.int .i64 kd) := hB7.cell 0
                      have c71 : w7.cell? ⟨b6, 1, none⟩ = some (.int .i64 ki) := hB7.cell 1
                      have c72 : w7.cell? ⟨b6, 2, none⟩ = some (.slice xad lx.length xc) := hB7.cell 2)))
        go_ret
        exact ⟨rfl, hM.trans hM7⟩
      have hd60 : decide ((60 : Int) < (lx.length : Int)) = false := decide_eq_false (by omega)
      obtain ⟨kz, hkz⟩ : ∃ kz, kz = kd % 5 := ⟨_, rfl⟩
      have hk5 : kz = 0 ∨ kz = 1 ∨ kz = 4 ∨ kz = 2 ∨ kz = 3 := by omega
      have HPK := Lib.hid (fun (W : World) => (Place_calls kd 5 W (by omega) (by omega)).mono (R' := fun e w' => e = .returned (.int .i64 kz) ∧ W = w') fun e w' h => by rw [hkz]; exact h)
      clear hkz
      have hce := Lib.hid (show cellsEq (heardT l ki).cells (heardT l ki).cells = true by rw [Tele.eq]; simp)
      rcases hk5 with rfl | rfl | rfl | rfl | rfl
      · go_wp2_with (first
          | (refine wl_at (o := ⟨some 31, _, _, _, _, _⟩) ?_
             go_must (refine wl_ix rfl rfl rfl rfl opTy.1 opTy.2 hv1 HX.out ?_
                      intro b5 k5 hat5 hbk5))
          | (refine wl_at (o := ⟨some 32, _, _, _, _, _⟩) ?_
             go_must (refine wl_loadS rfl rfl rfl (by kernel_rfl) (elOp.len _) hat5 ?_))
          | (refine wl_at (o := ⟨some 6, _, _, _, _, _⟩) ?_
             go_must (refine wl_alloc (z := .agg opZ.toArray) (zs := opZ) rfl rfl (by kernel_rfl) rfl ?_
                      intro w6 b6 h6 hB6 hm6))
          | (refine wl_at (o := ⟨none, .store 49 _ _, _, _, _, _⟩) ?_
             go_must (refine wl_storeW (vs := [.int .i64 kd, .int .i64 ki, .slice xad lx.length xc]) rfl rfl rfl rfl (by kernel_rfl) rfl (elOp.one ⟨kd, ki, xad, lx.length, xc⟩) hB6 rfl ?_
                      intro w7 hB7 hm7
                      have hM7 : Mod none' wr w7 := hm6.drop hm7 fun b hb => .inr (by cases hb; exact h6)
                      have c70 : w7.cell? ⟨b6, 0, none⟩ = some (.int .i64 kd) := hB7.cell 0
                      have c71 : w7.cell? ⟨b6, 1, none⟩ = some (.int .i64 ki) := hB7.cell 1
                      have c72 : w7.cell? ⟨b6, 2, none⟩ = some (.slice xad lx.length xc) := hB7.cell 2))
          | (go_at_call 8; go_must (refine (HPK.out _).mono ?_; rintro e w' ⟨rfl, rfl⟩))
          | (refine wp_region_stable (id := 14) [2, 7] (fun W => W.cell? ⟨b6, 2, none⟩ = some (.slice xad lx.length xc)) (by kernel_rfl) (by kernel_rfl) c72 (fun _ _ h => cell_alloc h) (by kernel_rfl) ?_)
          | (refine wp_region_stable (id := 24) [2, 6] (fun W => W.cell? ⟨b6, 1, none⟩ = some (.int .i64 ki)) (by kernel_rfl) (by kernel_rfl) c71 (fun _ _ h => cell_alloc h) (by kernel_rfl) ?_)
          | (refine wp_region_stable (id := 27) [7, 17] (fun W => W.cell? ⟨q, 0, none⟩ = some (.slice adq lt.length cq)) (by kernel_rfl) (by kernel_rfl) cq11 (fun _ _ h => cell_alloc h) (by kernel_rfl) ?_)
          | (refine wpC_of ?_)
          | (refine atEndC (by first | exact cq13 | exact cq11 | exact c102 | exact c92 | exact c82 | exact c72 | exact c91 | exact c81 | exact c71) ?_)
          | (refine wpC_nil ⟨by kernel_rfl, stays_load rfl rfl rfl rfl (by kernel_rfl) rfl (fun _ h => h) (stays_load rfl rfl rfl rfl (by kernel_rfl) rfl (fun _ h => h) stays_nil), ?_⟩)
          | (refine wl_at (o := ⟨some 46, _, _, _, _, _⟩) ?_
             go_must (refine wl_app (xs := []) (ys := lx) teleTy (Ow.nil _ _ _) (hlx1.mod (hM7.trans (Mod.drew _)) fun _ _ h => h) rfl rfl rfl rfl (by simp; unfold maxLen; omega) (by simp; omega) ?_
                      intro ad8 n8 c8 w8 ho8 hm8 hf8
                      rw [List.nil_append] at ho8
                      have hM8 : Mod none' wr w8 := (hM7.trans (Mod.drew _)).trans (hm8.mono fun _ h => by cases h)
                      have hB8 := hB7.mod ((Mod.drew w7).trans (hm8.mono fun _ h => by cases h) : Mod none' w7 w8) fun h => h
                      have c82 : w8.cell? ⟨b6, 2, none⟩ = some (.slice xad lx.length xc) := hB8.cell 2
                      have hR8 := hR.mod hM8 fun _ _ h => h))
          | (go_at_call 10
             go_must (refine (send_calls hR8 hl ho8.rd (by omega)).mono ?_
                      rintro e w9 ⟨rfl, hR9, hm9⟩
                      have hB9 := hB8.mod hm9 fun h => by have := hR.2.1 _ h; omega
                      have c92 : w9.cell? ⟨b6, 2, none⟩ = some (.slice xad lx.length xc) := hB9.cell 2
                      have hM9 : Mod F wr w9 := (hM8.mono fun _ h => h.elim).trans hm9
                      have hQ9 := hQ.mod hM9 fun b hb h => hFG b h hb
                      have hlx9 := rd_mod hlx1 hM9 fun hne b hb h => by have := Rd.lt hlx (by decide) hne b hb; have := hF b h; omega))
          | (go_at_call 15
             go_must (refine (refSend_calls hQ9 hl hlx9 (fun hne b hb h => by have := Rd.lt hlx (by decide) hne b hb; have := hG b h; omega) (by omega)).mono ?_
                      rintro e w10 ⟨rfl, ⟨Gt, hQt, hGt⟩, hm10⟩
                      have hB10 := hB9.mod hm10 fun h => by have := hQ.2.1 _ h; omega
                      have c102 : w10.cell? ⟨b6, 2, none⟩ = some (.slice xad lx.length xc) := hB10.cell 2
                      have s8 := hM8.size
                      have s9 := hm9.size
                      have hMw := hM.size
                      have hRt := hR9.mod hm10 fun b hb h => by
                        rcases hb with hb | hb
                        · exact hFG b hb h
                        · have := hQ.2.1 _ h; omega
                      have hFt : ∀ b, grow F w8 w9 b → w.heap.size ≤ b := fun b hb => by
                        rcases hb with hb | hb
                        · exact hF b hb
                        · omega
                      have hGt' : ∀ b, Gt b → w.heap.size ≤ b := fun b hb => by
                        rcases hGt b hb with hb | hb
                        · exact hG b hb
                        · omega
                      have hFGt : ∀ b, grow F w8 w9 b → ¬ Gt b := fun b hb hg => by
                        rcases hb with hb | hb <;> rcases hGt b hg with hg | hg
                        · exact hFG b hb hg
                        · have := hR.2.1 _ hb; omega
                        · have := hQ.2.1 _ hg; omega
                        · omega
                      have hMt : Mod none' w w10 := (hM.drop hM9 fun b hb => .inr (hF b hb)).drop hm10 fun b hb => .inr (hG b hb)
                      have hlt : (l ++ lx.take (1024 - l.length)).length ≤ 1024 := by rw [List.length_append, List.length_take]; omega
                      generalize l ++ lx.take (1024 - l.length) = lt at hRt hQt hlt
                      generalize grow F w8 w9 = Ft at hRt hFt hFGt))
          | (go_at_call 14
             go_must (refine (radLose ki (hR.mod (hM7.trans (Mod.drew _)) fun _ _ h => h) hl).mono ?_
                      rintro e w8 ⟨rfl, hR8, hm8⟩
                      have hM8 : Mod F wr w8 := ((hM7.trans (Mod.drew _)).mono fun _ h => h.elim).trans hm8
                      have hB8 := hB7.mod ((Mod.drew w7).trans hm8) fun h => by have := hR.2.1 _ h; omega
                      have c81 : w8.cell? ⟨b6, 1, none⟩ = some (.int .i64 ki) := hB8.cell 1
                      have hQ8 := hQ.mod hM8 fun b hb h => hFG b h hb))
          | (go_at_call 17
             go_must (refine (refLose ki hQ8 hl).mono ?_
                      rintro e w9 ⟨rfl, hQt, hm9⟩
                      have hB9 := hB8.mod hm9 fun h => by have := hQ.2.1 _ h; omega
                      have c91 : w9.cell? ⟨b6, 1, none⟩ = some (.int .i64 ki) := hB9.cell 1
                      have s8 := hM8.size
                      have s9 := hm9.size
                      have hMw := hM.size
                      have hRt := hR8.mod hm9 fun b hb h => hFG b hb h
                      obtain ⟨Ft, hFF⟩ : ∃ Ft, Ft = F := ⟨_, rfl⟩
                      have hFt : ∀ b, Ft b → w.heap.size ≤ b := fun b hb => hF b (hFF ▸ hb)
                      have hGt' : ∀ b, grow G w8 w9 b → w.heap.size ≤ b := fun b hb => by
                        rcases hb with hb | hb
                        · exact hG b hb
                        · omega
                      have hFGt : ∀ b, Ft b → ¬ grow G w8 w9 b := fun b hb hg => by
                        subst hFF
                        rcases hg with hg | hg
                        · exact hFG b hb hg
                        · have := hR.2.1 _ hb; omega
                      rw [← hFF] at hRt
                      have hMt : Mod none' w w9 := (hM.drop hM8 fun b hb => .inr (hF b hb)).drop hm9 fun b hb => .inr (hG b hb)
                      have hlt : (leftK false l ki).length ≤ 1024 := Nat.le_trans (leftK_len _ _ _) hl
                      generalize leftK false l ki = lt at hRt hQt hlt
                      generalize grow G w8 w9 = Gt at hQt hGt' hFGt))
          | (go_at_call 18
             go_must (refine (gather_calls 2000 hRt hlt (by omega)).mono ?_
                      rintro e w11 ⟨va, rfl, hva, hm11⟩
                      rw [List.take_of_length_le (by simp; omega)] at hva
                      have hR11 := hRt.mod hm11 fun _ _ h => h
                      have hQ11 := hQt.mod hm11 fun _ _ h => h
                      have hQ11' := hQ11
                      obtain ⟨_, _, vq, hBq, hOq, _⟩ := hQ11'
                      obtain ⟨adq, cq, rfl⟩ := hOq.vee
                      have cq11 : w11.cell? ⟨q, 0, none⟩ = some (.slice adq lt.length cq) := hBq.cell 0
                      have hM11 : Mod none' w w11.drew := (hMt.trans hm11).trans (Mod.drew _)))
          | (go_at_call 19
             go_must (refine (same_calls lt lt _ _ _ (hva.mod (Mod.drew (F := none') _) fun _ _ h => h) (hOq.rd.mod (Mod.drew (F := none') _) fun _ _ h => h) (by omega)).mono ?_
                      rintro e w13 ⟨rfl, hm13⟩
                      have hm13' : Mod none' w11 w13 := (Mod.drew _).trans hm13
                      have hR13 := hR11.mod hm13' fun _ _ h => h
                      have hQ13 := hQ11.mod hm13' fun _ _ h => h
                      have cq13 : w13.cell? ⟨q, 0, none⟩ = some (.slice adq lt.length cq) := (hBq.mod hm13' fun h => h).cell 0))
          | (go_at_call 11; go_must (refine (len_calls hR13).mono ?_; rintro e w' ⟨rfl, rfl⟩)))
        go_roundw
        case rel =>
          have R : PlaysRel w ops p q (.int .i64 ((j : Int) + 1)) w13 := ⟨j + 1, by go_num, by omega, Ft, Gt, lt, hR13, hQ13, hlt, hFt, hGt', hFGt, hM11.trans hm13⟩
          exact R
        case measure => simp [intOf]; omega
      · go_wp2_with (first
          | (refine wl_at (o := ⟨some 31, _, _, _, _, _⟩) ?_
             go_must (refine wl_ix rfl rfl rfl rfl opTy.1 opTy.2 hv1 HX.out ?_
                      intro b5 k5 hat5 hbk5))
          | (refine wl_at (o := ⟨some 32, _, _, _, _, _⟩) ?_
             go_must (refine wl_loadS rfl rfl rfl (by kernel_rfl) (elOp.len _) hat5 ?_))
          | (refine wl_at (o := ⟨some 6, _, _, _, _, _⟩) ?_
             go_must (refine wl_alloc (z := .agg opZ.toArray) (zs := opZ) rfl rfl (by kernel_rfl) rfl ?_
                      intro w6 b6 h6 hB6 hm6))
          | (refine wl_at (o := ⟨none, .store 49 _ _, _, _, _, _⟩) ?_
             go_must (refine wl_storeW (vs := [.int .i64 kd, .int .i64 ki, .slice xad lx.length xc]) rfl rfl rfl rfl (by kernel_rfl) rfl (elOp.one ⟨kd, ki, xad, lx.length, xc⟩) hB6 rfl ?_
                      intro w7 hB7 hm7
                      have hM7 : Mod none' wr w7 := hm6.drop hm7 fun b hb => .inr (by cases hb; exact h6)
                      have c70 : w7.cell? ⟨b6, 0, none⟩ = some (.int .i64 kd) := hB7.cell 0
                      have c71 : w7.cell? ⟨b6, 1, none⟩ = some (.int .i64 ki) := hB7.cell 1
                      have c72 : w7.cell? ⟨b6, 2, none⟩ = some (.slice xad lx.length xc) := hB7.cell 2))
          | (go_at_call 8; go_must (refine (HPK.out _).mono ?_; rintro e w' ⟨rfl, rfl⟩))
          | (refine wp_region_stable (id := 14) [2, 7] (fun W => W.cell? ⟨b6, 2, none⟩ = some (.slice xad lx.length xc)) (by kernel_rfl) (by kernel_rfl) c72 (fun _ _ h => cell_alloc h) (by kernel_rfl) ?_)
          | (refine wp_region_stable (id := 24) [2, 6] (fun W => W.cell? ⟨b6, 1, none⟩ = some (.int .i64 ki)) (by kernel_rfl) (by kernel_rfl) c71 (fun _ _ h => cell_alloc h) (by kernel_rfl) ?_)
          | (refine wp_region_stable (id := 27) [7, 17] (fun W => W.cell? ⟨q, 0, none⟩ = some (.slice adq lt.length cq)) (by kernel_rfl) (by kernel_rfl) cq11 (fun _ _ h => cell_alloc h) (by kernel_rfl) ?_)
          | (refine wpC_of ?_)
          | (refine atEndC (by first | exact cq13 | exact cq11 | exact c102 | exact c92 | exact c82 | exact c72 | exact c91 | exact c81 | exact c71) ?_)
          | (refine wpC_nil ⟨by kernel_rfl, stays_load rfl rfl rfl rfl (by kernel_rfl) rfl (fun _ h => h) (stays_load rfl rfl rfl rfl (by kernel_rfl) rfl (fun _ h => h) stays_nil), ?_⟩)
          | (refine wl_at (o := ⟨some 46, _, _, _, _, _⟩) ?_
             go_must (refine wl_app (xs := []) (ys := lx) teleTy (Ow.nil _ _ _) (hlx1.mod (hM7.trans (Mod.drew _)) fun _ _ h => h) rfl rfl rfl rfl (by simp; unfold maxLen; omega) (by simp; omega) ?_
                      intro ad8 n8 c8 w8 ho8 hm8 hf8
                      rw [List.nil_append] at ho8
                      have hM8 : Mod none' wr w8 := (hM7.trans (Mod.drew _)).trans (hm8.mono fun _ h => by cases h)
                      have hB8 := hB7.mod ((Mod.drew w7).trans (hm8.mono fun _ h => by cases h) : Mod none' w7 w8) fun h => h
                      have c82 : w8.cell? ⟨b6, 2, none⟩ = some (.slice xad lx.length xc) := hB8.cell 2
                      have hR8 := hR.mod hM8 fun _ _ h => h))
          | (go_at_call 10
             go_must (refine (send_calls hR8 hl ho8.rd (by omega)).mono ?_
                      rintro e w9 ⟨rfl, hR9, hm9⟩
                      have hB9 := hB8.mod hm9 fun h => by have := hR.2.1 _ h; omega
                      have c92 : w9.cell? ⟨b6, 2, none⟩ = some (.slice xad lx.length xc) := hB9.cell 2
                      have hM9 : Mod F wr w9 := (hM8.mono fun _ h => h.elim).trans hm9
                      have hQ9 := hQ.mod hM9 fun b hb h => hFG b h hb
                      have hlx9 := rd_mod hlx1 hM9 fun hne b hb h => by have := Rd.lt hlx (by decide) hne b hb; have := hF b h; omega))
          | (go_at_call 15
             go_must (refine (refSend_calls hQ9 hl hlx9 (fun hne b hb h => by have := Rd.lt hlx (by decide) hne b hb; have := hG b h; omega) (by omega)).mono ?_
                      rintro e w10 ⟨rfl, ⟨Gt, hQt, hGt⟩, hm10⟩
                      have hB10 := hB9.mod hm10 fun h => by have := hQ.2.1 _ h; omega
                      have c102 : w10.cell? ⟨b6, 2, none⟩ = some (.slice xad lx.length xc) := hB10.cell 2
                      have s8 := hM8.size
                      have s9 := hm9.size
                      have hMw := hM.size
                      have hRt := hR9.mod hm10 fun b hb h => by
                        rcases hb with hb | hb
                        · exact hFG b hb h
                        · have := hQ.2.1 _ h; omega
                      have hFt : ∀ b, grow F w8 w9 b → w.heap.size ≤ b := fun b hb => by
                        rcases hb with hb | hb
                        · exact hF b hb
                        · omega
                      have hGt' : ∀ b, Gt b → w.heap.size ≤ b := fun b hb => by
                        rcases hGt b hb with hb | hb
                        · exact hG b hb
                        · omega
                      have hFGt : ∀ b, grow F w8 w9 b → ¬ Gt b := fun b hb hg => by
                        rcases hb with hb | hb <;> rcases hGt b hg with hg | hg
                        · exact hFG b hb hg
                        · have := hR.2.1 _ hb; omega
                        · have := hQ.2.1 _ hg; omega
                        · omega
                      have hMt : Mod none' w w10 := (hM.drop hM9 fun b hb => .inr (hF b hb)).drop hm10 fun b hb => .inr (hG b hb)
                      have hlt : (l ++ lx.take (1024 - l.length)).length ≤ 1024 := by rw [List.length_append, List.length_take]; omega
                      generalize l ++ lx.take (1024 - l.length) = lt at hRt hQt hlt
                      generalize grow F w8 w9 = Ft at hRt hFt hFGt))
          | (go_at_call 14
             go_must (refine (radLose ki (hR.mod (hM7.trans (Mod.drew _)) fun _ _ h => h) hl).mono ?_
                      rintro e w8 ⟨rfl, hR8, hm8⟩
                      have hM8 : Mod F wr w8 := ((hM7.trans (Mod.drew _)).mono fun _ h => h.elim).trans hm8
                      have hB8 := hB7.mod ((Mod.drew w7).trans hm8) fun h => by have := hR.2.1 _ h; omega
                      have c81 : w8.cell? ⟨b6, 1, none⟩ = some (.int .i64 ki) := hB8.cell 1
                      have hQ8 := hQ.mod hM8 fun b hb h => hFG b h hb))
          | (go_at_call 17
             go_must (refine (refLose ki hQ8 hl).mono ?_
                      rintro e w9 ⟨rfl, hQt, hm9⟩
                      have hB9 := hB8.mod hm9 fun h => by have := hQ.2.1 _ h; omega
                      have c91 : w9.cell? ⟨b6, 1, none⟩ = some (.int .i64 ki) := hB9.cell 1
                      have s8 := hM8.size
                      have s9 := hm9.size
                      have hMw := hM.size
                      have hRt := hR8.mod hm9 fun b hb h => hFG b hb h
                      obtain ⟨Ft, hFF⟩ : ∃ Ft, Ft = F := ⟨_, rfl⟩
                      have hFt : ∀ b, Ft b → w.heap.size ≤ b := fun b hb => hF b (hFF ▸ hb)
                      have hGt' : ∀ b, grow G w8 w9 b → w.heap.size ≤ b := fun b hb => by
                        rcases hb with hb | hb
                        · exact hG b hb
                        · omega
                      have hFGt : ∀ b, Ft b → ¬ grow G w8 w9 b := fun b hb hg => by
                        subst hFF
                        rcases hg with hg | hg
                        · exact hFG b hb hg
                        · have := hR.2.1 _ hb; omega
                      rw [← hFF] at hRt
                      have hMt : Mod none' w w9 := (hM.drop hM8 fun b hb => .inr (hF b hb)).drop hm9 fun b hb => .inr (hG b hb)
                      have hlt : (leftK false l ki).length ≤ 1024 := Nat.le_trans (leftK_len _ _ _) hl
                      generalize leftK false l ki = lt at hRt hQt hlt
                      generalize grow G w8 w9 = Gt at hQt hGt' hFGt))
          | (go_at_call 18
             go_must (refine (gather_calls 2000 hRt hlt (by omega)).mono ?_
                      rintro e w11 ⟨va, rfl, hva, hm11⟩
                      rw [List.take_of_length_le (by simp; omega)] at hva
                      have hR11 := hRt.mod hm11 fun _ _ h => h
                      have hQ11 := hQt.mod hm11 fun _ _ h => h
                      have hQ11' := hQ11
                      obtain ⟨_, _, vq, hBq, hOq, _⟩ := hQ11'
                      obtain ⟨adq, cq, rfl⟩ := hOq.vee
                      have cq11 : w11.cell? ⟨q, 0, none⟩ = some (.slice adq lt.length cq) := hBq.cell 0
                      have hM11 : Mod none' w w11.drew := (hMt.trans hm11).trans (Mod.drew _)))
          | (go_at_call 19
             go_must (refine (same_calls lt lt _ _ _ (hva.mod (Mod.drew (F := none') _) fun _ _ h => h) (hOq.rd.mod (Mod.drew (F := none') _) fun _ _ h => h) (by omega)).mono ?_
                      rintro e w13 ⟨rfl, hm13⟩
                      have hm13' : Mod none' w11 w13 := (Mod.drew _).trans hm13
                      have hR13 := hR11.mod hm13' fun _ _ h => h
                      have hQ13 := hQ11.mod hm13' fun _ _ h => h
                      have cq13 : w13.cell? ⟨q, 0, none⟩ = some (.slice adq lt.length cq) := (hBq.mod hm13' fun h => h).cell 0))
          | (go_at_call 11; go_must (refine (len_calls hR13).mono ?_; rintro e w' ⟨rfl, rfl⟩)))
        go_roundw
        case rel =>
          have R : PlaysRel w ops p q (.int .i64 ((j : Int) + 1)) w13 := ⟨j + 1, by go_num, by omega, Ft, Gt, lt, hR13, hQ13, hlt, hFt, hGt', hFGt, hM11.trans hm13⟩
          exact R
        case measure => simp [intOf]; omega
      · go_wp2_with (first
          | (refine wl_at (o := ⟨some 31, _, _, _, _, _⟩) ?_
             go_must (refine wl_ix rfl rfl rfl rfl opTy.1 opTy.2 hv1 HX.out ?_
                      intro b5 k5 hat5 hbk5))
          | (refine wl_at (o := ⟨some 32, _, _, _, _, _⟩) ?_
             go_must (refine wl_loadS rfl rfl rfl (by kernel_rfl) (elOp.len _) hat5 ?_))
          | (refine wl_at (o := ⟨some 6, _, _, _, _, _⟩) ?_
             go_must (refine wl_alloc (z := .agg opZ.toArray) (zs := opZ) rfl rfl (by kernel_rfl) rfl ?_
                      intro w6 b6 h6 hB6 hm6))
          | (refine wl_at (o := ⟨none, .store 49 _ _, _, _, _, _⟩) ?_
             go_must (refine wl_storeW (vs := [.int .i64 kd, .int .i64 ki, .slice xad lx.length xc]) rfl rfl rfl rfl (by kernel_rfl) rfl (elOp.one ⟨kd, ki, xad, lx.length, xc⟩) hB6 rfl ?_
                      intro w7 hB7 hm7
                      have hM7 : Mod none' wr w7 := hm6.drop hm7 fun b hb => .inr (by cases hb; exact h6)
                      have c70 : w7.cell? ⟨b6, 0, none⟩ = some (.int .i64 kd) := hB7.cell 0
                      have c71 : w7.cell? ⟨b6, 1, none⟩ = some (.int .i64 ki) := hB7.cell 1
                      have c72 : w7.cell? ⟨b6, 2, none⟩ = some (.slice xad lx.length xc) := hB7.cell 2))
          | (go_at_call 8; go_must (refine (HPK.out _).mono ?_; rintro e w' ⟨rfl, rfl⟩))
          | (refine wp_region_stable (id := 14) [2, 7] (fun W => W.cell? ⟨b6, 2, none⟩ = some (.slice xad lx.length xc)) (by kernel_rfl) (by kernel_rfl) c72 (fun _ _ h => cell_alloc h) (by kernel_rfl) ?_)
          | (refine wp_region_stable (id := 24) [2, 6] (fun W => W.cell? ⟨b6, 1, none⟩ = some (.int .i64 ki)) (by kernel_rfl) (by kernel_rfl) c71 (fun _ _ h => cell_alloc h) (by kernel_rfl) ?_)
          | (refine wp_region_stable (id := 27) [7, 17] (fun W => W.cell? ⟨q, 0, none⟩ = some (.slice adq lt.length cq)) (by kernel_rfl) (by kernel_rfl) cq11 (fun _ _ h => cell_alloc h) (by kernel_rfl) ?_)
          | (refine wpC_of ?_)
          | (refine atEndC (by first | exact cq13 | exact cq11 | exact c102 | exact c92 | exact c82 | exact c72 | exact c91 | exact c81 | exact c71) ?_)
          | (refine wpC_nil ⟨by kernel_rfl, stays_load rfl rfl rfl rfl (by kernel_rfl) rfl (fun _ h => h) (stays_load rfl rfl rfl rfl (by kernel_rfl) rfl (fun _ h => h) stays_nil), ?_⟩)
          | (refine wl_at (o := ⟨some 46, _, _, _, _, _⟩) ?_
             go_must (refine wl_app (xs := []) (ys := lx) teleTy (Ow.nil _ _ _) (hlx1.mod (hM7.trans (Mod.drew _)) fun _ _ h => h) rfl rfl rfl rfl (by simp; unfold maxLen; omega) (by simp; omega) ?_
                      intro ad8 n8 c8 w8 ho8 hm8 hf8
                      rw [List.nil_append] at ho8
                      have hM8 : Mod none' wr w8 := (hM7.trans (Mod.drew _)).trans (hm8.mono fun _ h => by cases h)
                      have hB8 := hB7.mod ((Mod.drew w7).trans (hm8.mono fun _ h => by cases h) : Mod none' w7 w8) fun h => h
                      have c82 : w8.cell? ⟨b6, 2, none⟩ = some (.slice xad lx.length xc) := hB8.cell 2
                      have hR8 := hR.mod hM8 fun _ _ h => h))
          | (go_at_call 10
             go_must (refine (send_calls hR8 hl ho8.rd (by omega)).mono ?_
                      rintro e w9 ⟨rfl, hR9, hm9⟩
                      have hB9 := hB8.mod hm9 fun h => by have := hR.2.1 _ h; omega
                      have c92 : w9.cell? ⟨b6, 2, none⟩ = some (.slice xad lx.length xc) := hB9.cell 2
                      have hM9 : Mod F wr w9 := (hM8.mono fun _ h => h.elim).trans hm9
                      have hQ9 := hQ.mod hM9 fun b hb h => hFG b h hb
                      have hlx9 := rd_mod hlx1 hM9 fun hne b hb h => by have := Rd.lt hlx (by decide) hne b hb; have := hF b h; omega))
          | (go_at_call 15
             go_must (refine (refSend_calls hQ9 hl hlx9 (fun hne b hb h => by have := Rd.lt hlx (by decide) hne b hb; have := hG b h; omega) (by omega)).mono ?_
                      rintro e w10 ⟨rfl, ⟨Gt, hQt, hGt⟩, hm10⟩
                      have hB10 := hB9.mod hm10 fun h => by have := hQ.2.1 _ h; omega
                      have c102 : w10.cell? ⟨b6, 2, none⟩ = some (.slice xad lx.length xc) := hB10.cell 2
                      have s8 := hM8.size
                      have s9 := hm9.size
                      have hMw := hM.size
                      have hRt := hR9.mod hm10 fun b hb h => by
                        rcases hb with hb | hb
                        · exact hFG b hb h
                        · have := hQ.2.1 _ h; omega
                      have hFt : ∀ b, grow F w8 w9 b → w.heap.size ≤ b := fun b hb => by
                        rcases hb with hb | hb
                        · exact hF b hb
                        · omega
                      have hGt' : ∀ b, Gt b → w.heap.size ≤ b := fun b hb => by
                        rcases hGt b hb with hb | hb
                        · exact hG b hb
                        · omega
                      have hFGt : ∀ b, grow F w8 w9 b → ¬ Gt b := fun b hb hg => by
                        rcases hb with hb | hb <;> rcases hGt b hg with hg | hg
                        · exact hFG b hb hg
                        · have := hR.2.1 _ hb; omega
                        · have := hQ.2.1 _ hg; omega
                        · omega
                      have hMt : Mod none' w w10 := (hM.drop hM9 fun b hb => .inr (hF b hb)).drop hm10 fun b hb => .inr (hG b hb)
                      have hlt : (l ++ lx.take (1024 - l.length)).length ≤ 1024 := by rw [List.length_append, List.length_take]; omega
                      generalize l ++ lx.take (1024 - l.length) = lt at hRt hQt hlt
                      generalize grow F w8 w9 = Ft at hRt hFt hFGt))
          | (go_at_call 14
             go_must (refine (radLose ki (hR.mod (hM7.trans (Mod.drew _)) fun _ _ h => h) hl).mono ?_
                      rintro e w8 ⟨rfl, hR8, hm8⟩
                      have hM8 : Mod F wr w8 := ((hM7.trans (Mod.drew _)).mono fun _ h => h.elim).trans hm8
                      have hB8 := hB7.mod ((Mod.drew w7).trans hm8) fun h => by have := hR.2.1 _ h; omega
                      have c81 : w8.cell? ⟨b6, 1, none⟩ = some (.int .i64 ki) := hB8.cell 1
                      have hQ8 := hQ.mod hM8 fun b hb h => hFG b h hb))
          | (go_at_call 17
             go_must (refine (refLose ki hQ8 hl).mono ?_
                      rintro e w9 ⟨rfl, hQt, hm9⟩
                      have hB9 := hB8.mod hm9 fun h => by have := hQ.2.1 _ h; omega
                      have c91 : w9.cell? ⟨b6, 1, none⟩ = some (.int .i64 ki) := hB9.cell 1
                      have s8 := hM8.size
                      have s9 := hm9.size
                      have hMw := hM.size
                      have hRt := hR8.mod hm9 fun b hb h => hFG b hb h
                      obtain ⟨Ft, hFF⟩ : ∃ Ft, Ft = F := ⟨_, rfl⟩
                      have hFt : ∀ b, Ft b → w.heap.size ≤ b := fun b hb => hF b (hFF ▸ hb)
                      have hGt' : ∀ b, grow G w8 w9 b → w.heap.size ≤ b := fun b hb => by
                        rcases hb with hb | hb
                        · exact hG b hb
                        · omega
                      have hFGt : ∀ b, Ft b → ¬ grow G w8 w9 b := fun b hb hg => by
                        subst hFF
                        rcases hg with hg | hg
                        · exact hFG b hb hg
                        · have := hR.2.1 _ hb; omega
                      rw [← hFF] at hRt
                      have hMt : Mod none' w w9 := (hM.drop hM8 fun b hb => .inr (hF b hb)).drop hm9 fun b hb => .inr (hG b hb)
                      have hlt : (leftK false l ki).length ≤ 1024 := Nat.le_trans (leftK_len _ _ _) hl
                      generalize leftK false l ki = lt at hRt hQt hlt
                      generalize grow G w8 w9 = Gt at hQt hGt' hFGt))
          | (go_at_call 18
             go_must (refine (gather_calls 2000 hRt hlt (by omega)).mono ?_
                      rintro e w11 ⟨va, rfl, hva, hm11⟩
                      rw [List.take_of_length_le (by simp; omega)] at hva
                      have hR11 := hRt.mod hm11 fun _ _ h => h
                      have hQ11 := hQt.mod hm11 fun _ _ h => h
                      have hQ11' := hQ11
                      obtain ⟨_, _, vq, hBq, hOq, _⟩ := hQ11'
                      obtain ⟨adq, cq, rfl⟩ := hOq.vee
                      have cq11 : w11.cell? ⟨q, 0, none⟩ = some (.slice adq lt.length cq) := hBq.cell 0
                      have hM11 : Mod none' w w11.drew := (hMt.trans hm11).trans (Mod.drew _)))
          | (go_at_call 19
             go_must (refine (same_calls lt lt _ _ _ (hva.mod (Mod.drew (F := none') _) fun _ _ h => h) (hOq.rd.mod (Mod.drew (F := none') _) fun _ _ h => h) (by omega)).mono ?_
                      rintro e w13 ⟨rfl, hm13⟩
                      have hm13' : Mod none' w11 w13 := (Mod.drew _).trans hm13
                      have hR13 := hR11.mod hm13' fun _ _ h => h
                      have hQ13 := hQ11.mod hm13' fun _ _ h => h
                      have cq13 : w13.cell? ⟨q, 0, none⟩ = some (.slice adq lt.length cq) := (hBq.mod hm13' fun h => h).cell 0))
          | (go_at_call 11; go_must (refine (len_calls hR13).mono ?_; rintro e w' ⟨rfl, rfl⟩)))
        go_roundw
        case rel =>
          have R : PlaysRel w ops p q (.int .i64 ((j : Int) + 1)) w13 := ⟨j + 1, by go_num, by omega, Ft, Gt, lt, hR13, hQ13, hlt, hFt, hGt', hFGt, hM11.trans hm13⟩
          exact R
        case measure => simp [intOf]; omega
      · go_wp2_with (first
          | (refine wl_at (o := ⟨some 31, _, _, _, _, _⟩) ?_
             go_must (refine wl_ix rfl rfl rfl rfl opTy.1 opTy.2 hv1 HX.out ?_
                      intro b5 k5 hat5 hbk5))
          | (refine wl_at (o := ⟨some 32, _, _, _, _, _⟩) ?_
             go_must (refine wl_loadS rfl rfl rfl (by kernel_rfl) (elOp.len _) hat5 ?_))
          | (refine wl_at (o := ⟨some 6, _, _, _, _, _⟩) ?_
             go_must (refine wl_alloc (z := .agg opZ.toArray) (zs := opZ) rfl rfl (by kernel_rfl) rfl ?_
                      intro w6 b6 h6 hB6 hm6))
          | (refine wl_at (o := ⟨none, .store 49 _ _, _, _, _, _⟩) ?_
             go_must (refine wl_storeW (vs := [.int .i64 kd, .int .i64 ki, .slice xad lx.length xc]) rfl rfl rfl rfl (by kernel_rfl) rfl (elOp.one ⟨kd, ki, xad, lx.length, xc⟩) hB6 rfl ?_
                      intro w7 hB7 hm7
                      have hM7 : Mod none' wr w7 := hm6.drop hm7 fun b hb => .inr (by cases hb; exact h6)
                      have c70 : w7.cell? ⟨b6, 0, none⟩ = some (.int .i64 kd) := hB7.cell 0
                      have c71 : w7.cell? ⟨b6, 1, none⟩ = some (.int .i64 ki) := hB7.cell 1
                      have c72 : w7.cell? ⟨b6, 2, none⟩ = some (.slice xad lx.length xc) := hB7.cell 2))
          | (go_at_call 8; go_must (refine (HPK.out _).mono ?_; rintro e w' ⟨rfl, rfl⟩))
          | (refine wp_region_stable (id := 14) [2, 7] (fun W => W.cell? ⟨b6, 2, none⟩ = some (.slice xad lx.length xc)) (by kernel_rfl) (by kernel_rfl) c72 (fun _ _ h => cell_alloc h) (by kernel_rfl) ?_)
          | (refine wp_region_stable (id := 24) [2, 6] (fun W => W.cell? ⟨b6, 1, none⟩ = some (.int .i64 ki)) (by kernel_rfl) (by kernel_rfl) c71 (fun _ _ h => cell_alloc h) (by kernel_rfl) ?_)
          | (refine wp_region_stable (id := 27) [7, 17] (fun W => W.cell? ⟨q, 0, none⟩ = some (.slice adq lt.length cq)) (by kernel_rfl) (by kernel_rfl) cq11 (fun _ _ h => cell_alloc h) (by kernel_rfl) ?_)
          | (refine wpC_of ?_)
          | (refine atEndC (by first | exact cq13 | exact cq11 | exact c102 | exact c92 | exact c82 | exact c72 | exact c91 | exact c81 | exact c71) ?_)
          | (refine wpC_nil ⟨by kernel_rfl, stays_load rfl rfl rfl rfl (by kernel_rfl) rfl (fun _ h => h) (stays_load rfl rfl rfl rfl (by kernel_rfl) rfl (fun _ h => h) stays_nil), ?_⟩)
          | (refine wl_at (o := ⟨some 46, _, _, _, _, _⟩) ?_
             go_must (refine wl_app (xs := []) (ys := lx) teleTy (Ow.nil _ _ _) (hlx1.mod (hM7.trans (Mod.drew _)) fun _ _ h => h) rfl rfl rfl rfl (by simp; unfold maxLen; omega) (by simp; omega) ?_
                      intro ad8 n8 c8 w8 ho8 hm8 hf8
                      rw [List.nil_append] at ho8
                      have hM8 : Mod none' wr w8 := (hM7.trans (Mod.drew _)).trans (hm8.mono fun _ h => by cases h)
                      have hB8 := hB7.mod ((Mod.drew w7).trans (hm8.mono fun _ h => by cases h) : Mod none' w7 w8) fun h => h
                      have c82 : w8.cell? ⟨b6, 2, none⟩ = some (.slice xad lx.length xc) := hB8.cell 2
                      have hR8 := hR.mod hM8 fun _ _ h => h))
          | (go_at_call 10
             go_must (refine (send_calls hR8 hl ho8.rd (by omega)).mono ?_
                      rintro e w9 ⟨rfl, hR9, hm9⟩
                      have hB9 := hB8.mod hm9 fun h => by have := hR.2.1 _ h; omega
                      have c92 : w9.cell? ⟨b6, 2, none⟩ = some (.slice xad lx.length xc) := hB9.cell 2
                      have hM9 : Mod F wr w9 := (hM8.mono fun _ h => h.elim).trans hm9
                      have hQ9 := hQ.mod hM9 fun b hb h => hFG b h hb
                      have hlx9 := rd_mod hlx1 hM9 fun hne b hb h => by have := Rd.lt hlx (by decide) hne b hb; have := hF b h; omega))
          | (go_at_call 15
             go_must (refine (refSend_calls hQ9 hl hlx9 (fun hne b hb h => by have := Rd.lt hlx (by decide) hne b hb; have := hG b h; omega) (by omega)).mono ?_
                      rintro e w10 ⟨rfl, ⟨Gt, hQt, hGt⟩, hm10⟩
                      have hB10 := hB9.mod hm10 fun h => by have := hQ.2.1 _ h; omega
                      have c102 : w10.cell? ⟨b6, 2, none⟩ = some (.slice xad lx.length xc) := hB10.cell 2
                      have s8 := hM8.size
                      have s9 := hm9.size
                      have hMw := hM.size
                      have hRt := hR9.mod hm10 fun b hb h => by
                        rcases hb with hb | hb
                        · exact hFG b hb h
                        · have := hQ.2.1 _ h; omega
                      have hFt : ∀ b, grow F w8 w9 b → w.heap.size ≤ b := fun b hb => by
                        rcases hb with hb | hb
                        · exact hF b hb
                        · omega
                      have hGt' : ∀ b, Gt b → w.heap.size ≤ b := fun b hb => by
                        rcases hGt b hb with hb | hb
                        · exact hG b hb
                        · omega
                      have hFGt : ∀ b, grow F w8 w9 b → ¬ Gt b := fun b hb hg => by
                        rcases hb with hb | hb <;> rcases hGt b hg with hg | hg
                        · exact hFG b hb hg
                        · have := hR.2.1 _ hb; omega
                        · have := hQ.2.1 _ hg; omega
                        · omega
                      have hMt : Mod none' w w10 := (hM.drop hM9 fun b hb => .inr (hF b hb)).drop hm10 fun b hb => .inr (hG b hb)
                      have hlt : (l ++ lx.take (1024 - l.length)).length ≤ 1024 := by rw [List.length_append, List.length_take]; omega
                      generalize l ++ lx.take (1024 - l.length) = lt at hRt hQt hlt
                      generalize grow F w8 w9 = Ft at hRt hFt hFGt))
          | (go_at_call 14
             go_must (refine (radLose ki (hR.mod (hM7.trans (Mod.drew _)) fun _ _ h => h) hl).mono ?_
                      rintro e w8 ⟨rfl, hR8, hm8⟩
                      have hM8 : Mod F wr w8 := ((hM7.trans (Mod.drew _)).mono fun _ h => h.elim).trans hm8
                      have hB8 := hB7.mod ((Mod.drew w7).trans hm8) fun h => by have := hR.2.1 _ h; omega
                      have c81 : w8.cell? ⟨b6, 1, none⟩ = some (.int .i64 ki) := hB8.cell 1
                      have hQ8 := hQ.mod hM8 fun b hb h => hFG b h hb))
          | (go_at_call 17
             go_must (refine (refLose ki hQ8 hl).mono ?_
                      rintro e w9 ⟨rfl, hQt, hm9⟩
                      have hB9 := hB8.mod hm9 fun h => by have := hQ.2.1 _ h; omega
                      have c91 : w9.cell? ⟨b6, 1, none⟩ = some (.int .i64 ki) := hB9.cell 1
                      have s8 := hM8.size
                      have s9 := hm9.size
                      have hMw := hM.size
                      have hRt := hR8.mod hm9 fun b hb h => hFG b hb h
                      obtain ⟨Ft, hFF⟩ : ∃ Ft, Ft = F := ⟨_, rfl⟩
                      have hFt : ∀ b, Ft b → w.heap.size ≤ b := fun b hb => hF b (hFF ▸ hb)
                      have hGt' : ∀ b, grow G w8 w9 b → w.heap.size ≤ b := fun b hb => by
                        rcases hb with hb | hb
                        · exact hG b hb
                        · omega
                      have hFGt : ∀ b, Ft b → ¬ grow G w8 w9 b := fun b hb hg => by
                        subst hFF
                        rcases hg with hg | hg
                        · exact hFG b hb hg
                        · have := hR.2.1 _ hb; omega
                      rw [← hFF] at hRt
                      have hMt : Mod none' w w9 := (hM.drop hM8 fun b hb => .inr (hF b hb)).drop hm9 fun b hb => .inr (hG b hb)
                      have hlt : (leftK false l ki).length ≤ 1024 := Nat.le_trans (leftK_len _ _ _) hl
                      generalize leftK false l ki = lt at hRt hQt hlt
                      generalize grow G w8 w9 = Gt at hQt hGt' hFGt))
          | (go_at_call 12
             go_must (refine (radHear ki _ (hR.mod hM7 fun _ _ h => h) hl).mono ?_
                      rintro e wa ⟨rfl, hRa, hma⟩
                      have hMa : Mod F wr wa := (hM7.mono fun _ h => h.elim).trans hma
                      have hBa := hB7.mod hma fun h => by have := hR.2.1 _ h; omega
                      have hQa := hQ.mod hMa fun b hb h => hFG b h hb))
          | (refine wl_at (o := ⟨some 8, _, _, _, _, _⟩) ?_
             go_must (refine wl_alloc (z := .agg teleZ.cells.toArray) (zs := teleZ.cells) rfl rfl (by kernel_rfl) rfl ?_
                      intro wb b8 h8 hBb hmb))
          | (refine wl_at (o := ⟨none, .store 33 (.tmp 8) _, _, _, _, _⟩) ?_
             go_must (refine wl_storeW (vs := (heardT l ki).cells) rfl rfl rfl rfl (by kernel_rfl) (elTele.len _) (Tele.one _) hBb rfl ?_
                      intro wc hBc hmc
                      have hMc : Mod none' wa wc := hmb.drop hmc fun b hb => .inr (by cases hb; exact h8)
                      have hB6c := hBa.mod hMc fun h => h
                      have cc1 : wc.cell? ⟨b6, 1, none⟩ = some (.int .i64 ki) := hB6c.cell 1
                      have hQc := hQa.mod hMc fun _ _ h => h
                      have hRc := hRa.mod hMc fun _ _ h => h))
          | (go_at_call 16
             go_must (refine (refHear ki _ hQc hl).mono ?_
                      rintro e wd ⟨rfl, hQd, hmd⟩
                      have hRd := hRc.mod hmd fun b hb h => hFG b hb h
                      have hB8d := hBc.mod hmd fun h => by have := hQ.2.1 _ h; have := hMa.size; omega))
          | (refine wl_at (o := ⟨some 10, _, _, _, _, _⟩) ?_
             go_must (refine wl_alloc (z := .agg teleZ.cells.toArray) (zs := teleZ.cells) rfl rfl (by kernel_rfl) rfl ?_
                      intro we b10 h10 hBe hme))
          | (refine wl_at (o := ⟨none, .store 33 (.tmp 10) _, _, _, _, _⟩) ?_
             go_must (refine wl_storeW (vs := (heardT l ki).cells) rfl rfl rfl rfl (by kernel_rfl) (elTele.len _) (Tele.one _) hBe rfl ?_
                      intro wf hBf hmf
                      have hMf : Mod none' wd wf := hme.drop hmf fun b hb => .inr (by cases hb; exact h10)
                      have hB8f := hB8d.mod hMf fun h => h
                      have s8 := hMa.size
                      have s9 := hMc.size
                      have s10 := hmd.size
                      have hMw := hM.size
                      have hRt := hRd.mod hMf fun _ _ h => h
                      have hQt := hQd.mod hMf fun _ _ h => h
                      obtain ⟨Ft, hFF⟩ : ∃ Ft, Ft = F := ⟨_, rfl⟩
                      have hFt : ∀ b, Ft b → w.heap.size ≤ b := fun b hb => hF b (hFF ▸ hb)
                      have hGt' : ∀ b, grow G wc wd b → w.heap.size ≤ b := fun b hb => by
                        rcases hb with hb | hb
                        · exact hG b hb
                        · omega
                      have hFGt : ∀ b, Ft b → ¬ grow G wc wd b := fun b hb hg => by
                        subst hFF
                        rcases hg with hg | hg
                        · exact hFG b hb hg
                        · have := hR.2.1 _ hb; omega
                      rw [← hFF] at hRt
                      have hMt : Mod none' w wf := (((hM.drop hMa fun b hb => .inr (hF b hb)).trans hMc).drop hmd fun b hb => .inr (hG b hb)).trans hMf
                      have hlt := Nat.le_trans (leftK_len false l ki) hl
                      generalize leftK false l ki = lt at hRt hQt hlt
                      generalize grow G wc wd = Gt at hQt hGt' hFGt))
          | (refine wl_at (o := ⟨some 76, _, _, _, _, _⟩) ?_
             go_must (refine wl_loadS rfl rfl rfl (by kernel_rfl) (elTele.len _) hB8f.at0 ?_))
          | (refine wl_at (o := ⟨some 77, _, _, _, _, _⟩) ?_
             go_must (refine wl_loadS rfl rfl rfl (by kernel_rfl) (elTele.len _) hBf.at0 ?_))
          | (refine wl_at (o := ⟨some 78, _, _, _, _, _⟩) ?_
             go_must (refine wl_neqS (xs := (heardT l ki).cells) (ys := (heardT l ki).cells) rfl rfl rfl rfl teleEqB (Tele.ks _) (Tele.ks _) ?_
                      rw [hce.out]))
          | (go_at_call 18
             go_must (refine (gather_calls 2000 hRt hlt (by omega)).mono ?_
                      rintro e w11 ⟨va, rfl, hva, hm11⟩
                      rw [List.take_of_length_le (by simp; omega)] at hva
                      have hR11 := hRt.mod hm11 fun _ _ h => h
                      have hQ11 := hQt.mod hm11 fun _ _ h => h
                      have hQ11' := hQ11
                      obtain ⟨_, _, vq, hBq, hOq, _⟩ := hQ11'
                      obtain ⟨adq, cq, rfl⟩ := hOq.vee
                      have cq11 : w11.cell? ⟨q, 0, none⟩ = some (.slice adq lt.length cq) := hBq.cell 0
                      have hM11 : Mod none' w w11.drew := (hMt.trans hm11).trans (Mod.drew _)))
          | (go_at_call 19
             go_must (refine (same_calls lt lt _ _ _ (hva.mod (Mod.drew (F := none') _) fun _ _ h => h) (hOq.rd.mod (Mod.drew (F := none') _) fun _ _ h => h) (by omega)).mono ?_
                      rintro e w13 ⟨rfl, hm13⟩
                      have hm13' : Mod none' w11 w13 := (Mod.drew _).trans hm13
                      have hR13 := hR11.mod hm13' fun _ _ h => h
                      have hQ13 := hQ11.mod hm13' fun _ _ h => h
                      have cq13 : w13.cell? ⟨q, 0, none⟩ = some (.slice adq lt.length cq) := (hBq.mod hm13' fun h => h).cell 0))
          | (go_at_call 11; go_must (refine (len_calls hR13).mono ?_; rintro e w' ⟨rfl, rfl⟩)))
        go_roundw
        case rel =>
          have R : PlaysRel w ops p q (.int .i64 ((j : Int) + 1)) w13 := ⟨j + 1, by go_num, by omega, Ft, Gt, lt, hR13, hQ13, hlt, hFt, hGt', hFGt, hM11.trans hm13⟩
          exact R
        case measure => simp [intOf]; omega
      · go_wp2_with (first
          | (refine wl_at (o := ⟨some 31, _, _, _, _, _⟩) ?_
             go_must (refine wl_ix rfl rfl rfl rfl opTy.1 opTy.2 hv1 HX.out ?_
                      intro b5 k5 hat5 hbk5))
          | (refine wl_at (o := ⟨some 32, _, _, _, _, _⟩) ?_
             go_must (refine wl_loadS rfl rfl rfl (by kernel_rfl) (elOp.len _) hat5 ?_))
          | (refine wl_at (o := ⟨some 6, _, _, _, _, _⟩) ?_
             go_must (refine wl_alloc (z := .agg opZ.toArray) (zs := opZ) rfl rfl (by kernel_rfl) rfl ?_
                      intro w6 b6 h6 hB6 hm6))
          | (refine wl_at (o := ⟨none, .store 49 _ _, _, _, _, _⟩) ?_
             go_must (refine wl_storeW (vs := [.int .i64 kd, .int .i64 ki, .slice xad lx.length xc]) rfl rfl rfl rfl (by kernel_rfl) rfl (elOp.one ⟨kd, ki, xad, lx.length, xc⟩) hB6 rfl ?_
                      intro w7 hB7 hm7
                      have hM7 : Mod none' wr w7 := hm6.drop hm7 fun b hb => .inr (by cases hb; exact h6)
                      have c70 : w7.cell? ⟨b6, 0, none⟩ = some (.int .i64 kd) := hB7.cell 0
                      have c71 : w7.cell? ⟨b6, 1, none⟩ = some (.int .i64 ki) := hB7.cell 1
                      have c72 : w7.cell? ⟨b6, 2, none⟩ = some (.slice xad lx.length xc) := hB7.cell 2))
          | (go_at_call 8; go_must (refine (HPK.out _).mono ?_; rintro e w' ⟨rfl, rfl⟩))
          | (refine wp_region_stable (id := 14) [2, 7] (fun W => W.cell? ⟨b6, 2, none⟩ = some (.slice xad lx.length xc)) (by kernel_rfl) (by kernel_rfl) c72 (fun _ _ h => cell_alloc h) (by kernel_rfl) ?_)
          | (refine wp_region_stable (id := 24) [2, 6] (fun W => W.cell? ⟨b6, 1, none⟩ = some (.int .i64 ki)) (by kernel_rfl) (by kernel_rfl) c71 (fun _ _ h => cell_alloc h) (by kernel_rfl) ?_)
          | (refine wp_region_stable (id := 27) [7, 17] (fun W => W.cell? ⟨q, 0, none⟩ = some (.slice adq lt.length cq)) (by kernel_rfl) (by kernel_rfl) cq11 (fun _ _ h => cell_alloc h) (by kernel_rfl) ?_)
          | (refine wpC_of ?_)
          | (refine atEndC (by first | exact cq13 | exact cq11 | exact c102 | exact c92 | exact c82 | exact c72 | exact c91 | exact c81 | exact c71) ?_)
          | (refine wpC_nil ⟨by kernel_rfl, stays_load rfl rfl rfl rfl (by kernel_rfl) rfl (fun _ h => h) (stays_load rfl rfl rfl rfl (by kernel_rfl) rfl (fun _ h => h) stays_nil), ?_⟩)
          | (refine wl_at (o := ⟨some 46, _, _, _, _, _⟩) ?_
             go_must (refine wl_app (xs := []) (ys := lx) teleTy (Ow.nil _ _ _) (hlx1.mod (hM7.trans (Mod.drew _)) fun _ _ h => h) rfl rfl rfl rfl (by simp; unfold maxLen; omega) (by simp; omega) ?_
                      intro ad8 n8 c8 w8 ho8 hm8 hf8
                      rw [List.nil_append] at ho8
                      have hM8 : Mod none' wr w8 := (hM7.trans (Mod.drew _)).trans (hm8.mono fun _ h => by cases h)
                      have hB8 := hB7.mod ((Mod.drew w7).trans (hm8.mono fun _ h => by cases h) : Mod none' w7 w8) fun h => h
                      have c82 : w8.cell? ⟨b6, 2, none⟩ = some (.slice xad lx.length xc) := hB8.cell 2
                      have hR8 := hR.mod hM8 fun _ _ h => h))
          | (go_at_call 10
             go_must (refine (send_calls hR8 hl ho8.rd (by omega)).mono ?_
                      rintro e w9 ⟨rfl, hR9, hm9⟩
                      have hB9 := hB8.mod hm9 fun h => by have := hR.2.1 _ h; omega
                      have c92 : w9.cell? ⟨b6, 2, none⟩ = some (.slice xad lx.length xc) := hB9.cell 2
                      have hM9 : Mod F wr w9 := (hM8.mono fun _ h => h.elim).trans hm9
                      have hQ9 := hQ.mod hM9 fun b hb h => hFG b h hb
                      have hlx9 := rd_mod hlx1 hM9 fun hne b hb h => by have := Rd.lt hlx (by decide) hne b hb; have := hF b h; omega))
          | (go_at_call 15
             go_must (refine (refSend_calls hQ9 hl hlx9 (fun hne b hb h => by have := Rd.lt hlx (by decide) hne b hb; have := hG b h; omega) (by omega)).mono ?_
                      rintro e w10 ⟨rfl, ⟨Gt, hQt, hGt⟩, hm10⟩
                      have hB10 := hB9.mod hm10 fun h => by have := hQ.2.1 _ h; omega
                      have c102 : w10.cell? ⟨b6, 2, none⟩ = some (.slice xad lx.length xc) := hB10.cell 2
                      have s8 := hM8.size
                      have s9 := hm9.size
                      have hMw := hM.size
                      have hRt := hR9.mod hm10 fun b hb h => by
                        rcases hb with hb | hb
                        · exact hFG b hb h
                        · have := hQ.2.1 _ h; omega
                      have hFt : ∀ b, grow F w8 w9 b → w.heap.size ≤ b := fun b hb => by
                        rcases hb with hb | hb
                        · exact hF b hb
                        · omega
                      have hGt' : ∀ b, Gt b → w.heap.size ≤ b := fun b hb => by
                        rcases hGt b hb with hb | hb
                        · exact hG b hb
                        · omega
                      have hFGt : ∀ b, grow F w8 w9 b → ¬ Gt b := fun b hb hg => by
                        rcases hb with hb | hb <;> rcases hGt b hg with hg | hg
                        · exact hFG b hb hg
                        · have := hR.2.1 _ hb; omega
                        · have := hQ.2.1 _ hg; omega
                        · omega
                      have hMt : Mod none' w w10 := (hM.drop hM9 fun b hb => .inr (hF b hb)).drop hm10 fun b hb => .inr (hG b hb)
                      have hlt : (l ++ lx.take (1024 - l.length)).length ≤ 1024 := by rw [List.length_append, List.length_take]; omega
                      generalize l ++ lx.take (1024 - l.length) = lt at hRt hQt hlt
                      generalize grow F w8 w9 = Ft at hRt hFt hFGt))
          | (go_at_call 14
             go_must (refine (radLose ki (hR.mod (hM7.trans (Mod.drew _)) fun _ _ h => h) hl).mono ?_
                      rintro e w8 ⟨rfl, hR8, hm8⟩
                      have hM8 : Mod F wr w8 := ((hM7.trans (Mod.drew _)).mono fun _ h => h.elim).trans hm8
                      have hB8 := hB7.mod ((Mod.drew w7).trans hm8) fun h => by have := hR.2.1 _ h; omega
                      have c81 : w8.cell? ⟨b6, 1, none⟩ = some (.int .i64 ki) := hB8.cell 1
                      have hQ8 := hQ.mod hM8 fun b hb h => hFG b h hb))
          | (go_at_call 17
             go_must (refine (refLose ki hQ8 hl).mono ?_
                      rintro e w9 ⟨rfl, hQt, hm9⟩
                      have hB9 := hB8.mod hm9 fun h => by have := hQ.2.1 _ h; omega
                      have c91 : w9.cell? ⟨b6, 1, none⟩ = some (.int .i64 ki) := hB9.cell 1
                      have s8 := hM8.size
                      have s9 := hm9.size
                      have hMw := hM.size
                      have hRt := hR8.mod hm9 fun b hb h => hFG b hb h
                      obtain ⟨Ft, hFF⟩ : ∃ Ft, Ft = F := ⟨_, rfl⟩
                      have hFt : ∀ b, Ft b → w.heap.size ≤ b := fun b hb => hF b (hFF ▸ hb)
                      have hGt' : ∀ b, grow G w8 w9 b → w.heap.size ≤ b := fun b hb => by
                        rcases hb with hb | hb
                        · exact hG b hb
                        · omega
                      have hFGt : ∀ b, Ft b → ¬ grow G w8 w9 b := fun b hb hg => by
                        subst hFF
                        rcases hg with hg | hg
                        · exact hFG b hb hg
                        · have := hR.2.1 _ hb; omega
                      rw [← hFF] at hRt
                      have hMt : Mod none' w w9 := (hM.drop hM8 fun b hb => .inr (hF b hb)).drop hm9 fun b hb => .inr (hG b hb)
                      have hlt : (leftK false l ki).length ≤ 1024 := Nat.le_trans (leftK_len _ _ _) hl
                      generalize leftK false l ki = lt at hRt hQt hlt
                      generalize grow G w8 w9 = Gt at hQt hGt' hFGt))
          | (go_at_call 12
             go_must (refine (radHear ki _ (hR.mod hM7 fun _ _ h => h) hl).mono ?_
                      rintro e wa ⟨rfl, hRa, hma⟩
                      have hMa : Mod F wr wa := (hM7.mono fun _ h => h.elim).trans hma
                      have hBa := hB7.mod hma fun h => by have := hR.2.1 _ h; omega
                      have hQa := hQ.mod hMa fun b hb h => hFG b h hb))
          | (refine wl_at (o := ⟨some 8, _, _, _, _, _⟩) ?_
             go_must (refine wl_alloc (z := .agg teleZ.cells.toArray) (zs := teleZ.cells) rfl rfl (by kernel_rfl) rfl ?_
                      intro wb b8 h8 hBb hmb))
          | (refine wl_at (o := ⟨none, .store 33 (.tmp 8) _, _, _, _, _⟩) ?_
             go_must (refine wl_storeW (vs := (heardT l ki).cells) rfl rfl rfl rfl (by kernel_rfl) (elTele.len _) (Tele.one _) hBb rfl ?_
                      intro wc hBc hmc
                      have hMc : Mod none' wa wc := hmb.drop hmc fun b hb => .inr (by cases hb; exact h8)
                      have hB6c := hBa.mod hMc fun h => h
                      have cc1 : wc.cell? ⟨b6, 1, none⟩ = some (.int .i64 ki) := hB6c.cell 1
                      have hQc := hQa.mod hMc fun _ _ h => h
                      have hRc := hRa.mod hMc fun _ _ h => h))
          | (go_at_call 16
             go_must (refine (refHear ki _ hQc hl).mono ?_
                      rintro e wd ⟨rfl, hQd, hmd⟩
                      have hRd := hRc.mod hmd fun b hb h => hFG b hb h
                      have hB8d := hBc.mod hmd fun h => by have := hQ.2.1 _ h; have := hMa.size; omega))
          | (refine wl_at (o := ⟨some 10, _, _, _, _, _⟩) ?_
             go_must (refine wl_alloc (z := .agg teleZ.cells.toArray) (zs := teleZ.cells) rfl rfl (by kernel_rfl) rfl ?_
                      intro we b10 h10 hBe hme))
          | (refine wl_at (o := ⟨none, .store 33 (.tmp 10) _, _, _, _, _⟩) ?_
             go_must (refine wl_storeW (vs := (heardT l ki).cells) rfl rfl rfl rfl (by kernel_rfl) (elTele.len _) (Tele.one _) hBe rfl ?_
                      intro wf hBf hmf
                      have hMf : Mod none' wd wf := hme.drop hmf fun b hb => .inr (by cases hb; exact h10)
                      have hB8f := hB8d.mod hMf fun h => h
                      have s8 := hMa.size
                      have s9 := hMc.size
                      have s10 := hmd.size
                      have hMw := hM.size
                      have hRt := hRd.mod hMf fun _ _ h => h
                      have hQt := hQd.mod hMf fun _ _ h => h
                      obtain ⟨Ft, hFF⟩ : ∃ Ft, Ft = F := ⟨_, rfl⟩
                      have hFt : ∀ b, Ft b → w.heap.size ≤ b := fun b hb => hF b (hFF ▸ hb)
                      have hGt' : ∀ b, grow G wc wd b → w.heap.size ≤ b := fun b hb => by
                        rcases hb with hb | hb
                        · exact hG b hb
                        · omega
                      have hFGt : ∀ b, Ft b → ¬ grow G wc wd b := fun b hb hg => by
                        subst hFF
                        rcases hg with hg | hg
                        · exact hFG b hb hg
                        · have := hR.2.1 _ hb; omega
                      rw [← hFF] at hRt
                      have hMt : Mod none' w wf := (((hM.drop hMa fun b hb => .inr (hF b hb)).trans hMc).drop hmd fun b hb => .inr (hG b hb)).trans hMf
                      have hlt := Nat.le_trans (leftK_len true l ki) hl
                      generalize leftK true l ki = lt at hRt hQt hlt
                      generalize grow G wc wd = Gt at hQt hGt' hFGt))
          | (refine wl_at (o := ⟨some 76, _, _, _, _, _⟩) ?_
             go_must (refine wl_loadS rfl rfl rfl (by kernel_rfl) (elTele.len _) hB8f.at0 ?_))
          | (refine wl_at (o := ⟨some 77, _, _, _, _, _⟩) ?_
             go_must (refine wl_loadS rfl rfl rfl (by kernel_rfl) (elTele.len _) hBf.at0 ?_))
          | (refine wl_at (o := ⟨some 78, _, _, _, _, _⟩) ?_
             go_must (refine wl_neqS (xs := (heardT l ki).cells) (ys := (heardT l ki).cells) rfl rfl rfl rfl teleEqB (Tele.ks _) (Tele.ks _) ?_
                      rw [hce.out]))
          | (go_at_call 18
             go_must (refine (gather_calls 2000 hRt hlt (by omega)).mono ?_
                      rintro e w11 ⟨va, rfl, hva, hm11⟩
                      rw [List.take_of_length_le (by simp; omega)] at hva
                      have hR11 := hRt.mod hm11 fun _ _ h => h
                      have hQ11 := hQt.mod hm11 fun _ _ h => h
                      have hQ11' := hQ11
                      obtain ⟨_, _, vq, hBq, hOq, _⟩ := hQ11'
                      obtain ⟨adq, cq, rfl⟩ := hOq.vee
                      have cq11 : w11.cell? ⟨q, 0, none⟩ = some (.slice adq lt.length cq) := hBq.cell 0
                      have hM11 : Mod none' w w11.drew := (hMt.trans hm11).trans (Mod.drew _)))
          | (go_at_call 19
             go_must (refine (same_calls lt lt _ _ _ (hva.mod (Mod.drew (F := none') _) fun _ _ h => h) (hOq.rd.mod (Mod.drew (F := none') _) fun _ _ h => h) (by omega)).mono ?_
                      rintro e w13 ⟨rfl, hm13⟩
                      have hm13' : Mod none' w11 w13 := (Mod.drew _).trans hm13
                      have hR13 := hR11.mod hm13' fun _ _ h => h
                      have hQ13 := hQ11.mod hm13' fun _ _ h => h
                      have cq13 : w13.cell? ⟨q, 0, none⟩ = some (.slice adq lt.length cq) := (hBq.mod hm13' fun h => h).cell 0))
          | (go_at_call 11; go_must (refine (len_calls hR13).mono ?_; rintro e w' ⟨rfl, rfl⟩)))
        go_roundw
        case rel =>
          have R : PlaysRel w ops p q (.int .i64 ((j : Int) + 1)) w13 := ⟨j + 1, by go_num, by omega, Ft, Gt, lt, hR13, hQ13, hlt, hFt, hGt', hFGt, hM11.trans hm13⟩
          exact R
        case measure => simp [intOf]; omega
    · by_cases hj1 : j < ops.length
      · have hge : 60 ≤ j := by omega
        go_wp2_with fail
        go_ret
        exact ⟨rfl, hM⟩
      · obtain rfl : j = ops.length := by omega
        go_wp2_with fail
        go_ret
        exact ⟨rfl, hM⟩
end Go.Proofs.Ythbhbklbhfadnaa
