/- The radio: what its calls do to it, told by the list of telegrams that are under way. -/
import Derived.Test.YthbhbklbhfadnaaCom
namespace Go.Proofs.Ythbhbklbhfadnaa
open Go Go.Sk Go.RowKit

theorem teleTy : SliceTy Try.prog 35 33 elTele.sz 152 (Tele.cells ⟨0, 0, 0, 0, ⟨0, 0, 0, ⟨⟨0, 0⟩, false⟩, ⟨⟨0, 0⟩, false⟩, 0, 0⟩, ⟨⟨0, 0⟩, false⟩, 0⟩) :=
  SliceTy.mk' (z := .agg (Tele.cells ⟨0, 0, 0, 0, ⟨0, 0, 0, ⟨⟨0, 0⟩, false⟩, ⟨⟨0, 0⟩, false⟩, 0, 0⟩, ⟨⟨0, 0⟩, false⟩, 0⟩).toArray) (by kernel_rfl) (by kernel_rfl) rfl rfl

/-- The radio at block p of w, with the blocks F of its own, has the telegrams l under way. -/
def RadioAt (w : World) (p : Nat) (F : Nat → Prop) (l : List Tele) : Prop :=
  F p ∧ (∀ b, F b → b < w.heap.size) ∧ ∃ v, Blk w p [v] 57 ∧ Ow w 33 elTele v l ∧ ∀ b, v.ownBlock = some b → F b ∧ b ≠ p

theorem RadioAt.mod {w w' : World} {p : Nat} {F G : Nat → Prop} {l : List Tele} (h : RadioAt w p F l) (m : Mod G w w') (hG : ∀ b, F b → ¬ G b) : RadioAt w' p F l := by
  obtain ⟨h1, h2, v, h3, h4, h5⟩ := h
  exact ⟨h1, fun b hb => Nat.lt_of_lt_of_le (h2 b hb) m.size, v, h3.mod m (hG p h1), h4.mod m fun b hb => hG b (h5 b hb).1, h5⟩

set_option maxHeartbeats 400000 in
theorem len_calls {p : Nat} {F : Nat → Prop} {l : List Tele} {w : World} (h : RadioAt w p F l) :
    Calls Try.prog 11 #[.pointer (some ⟨p, 0, none⟩)] w fun e w' => e = .returned (.int .i64 l.length) ∧ w = w' := by
  obtain ⟨_, _, v, hB, hO, _⟩ := h
  obtain ⟨ad, c, rfl⟩ := hO.vee
  have hc : w.cell? ⟨p, 0, none⟩ = some (.slice ad l.length c) := hB.cell 0
  go_enter Try.func11, Try.ntmps11
  go_wp2
  go_ret
  exact ⟨rfl, rfl⟩

set_option maxHeartbeats 400000 in
theorem place0_calls {p : Nat} {F : Nat → Prop} {w : World} (i : Int) (h : RadioAt w p F []) :
    Calls Try.prog 20 #[.pointer (some ⟨p, 0, none⟩), .int .i64 i] w fun e w' => e = .returned (.int .i64 (-1)) ∧ w = w' := by
  go_enter Try.func20, Try.ntmps20
  go_wp2_with (go_at_call 11; refine (len_calls h).mono ?_; rintro e w' ⟨rfl, rfl⟩)
  go_ret
  exact ⟨rfl, rfl⟩

set_option maxHeartbeats 400000 in
theorem place_calls {p : Nat} {F : Nat → Prop} {l : List Tele} {w : World} (i : Int) (h : RadioAt w p F l) (h0 : 0 < l.length) (hl : l.length ≤ 1024) :
    Calls Try.prog 20 #[.pointer (some ⟨p, 0, none⟩), .int .i64 i] w fun e w' => e = .returned (.int .i64 (i % (l.length : Int))) ∧ w = w' := by
  have hb := tmod_bd i (l.length : Int) (by omega)
  have hne : ((l.length : Int) == 0) = false := beq_eq_false_iff_ne.2 (by omega)
  have hw : IntKind.i64.wrap (i.tmod (l.length : Int) + (l.length : Int)) = i.tmod (l.length : Int) + (l.length : Int) := by rw [IntKind.wrap_i64]; omega
  go_enter Try.func20, Try.ntmps20
  go_wp2_with (go_at_call 11; refine (len_calls h).mono ?_; rintro e w' ⟨rfl, rfl⟩)
  go_ret
  have hf : (i.tmod (l.length : Int)) % (l.length : Int) = i % (l.length : Int) := tmod_emod _ _ (by omega)
  refine ⟨?_, rfl⟩
  simp [hf]

theorem grow_lt {F : Nat → Prop} {w w' : World} (h : ∀ b, F b → b < w.heap.size) (m : w.heap.size ≤ w'.heap.size) : ∀ b, grow F w w' b → b < w'.heap.size := fun b hb => by
  rcases hb with hb | hb
  · exact Nat.lt_of_lt_of_le (h b hb) m
  · exact hb.2

set_option maxHeartbeats 1000000 in
theorem send_calls {p : Nat} {F : Nat → Prop} {l xs : List Tele} {w : World} {x : Value} (h : RadioAt w p F l) (hl : l.length ≤ 1024) (hx : Rd w elTele x xs) (_ : xs.length ≤ 9223372036854775807) :
    Calls Try.prog 10 #[.pointer (some ⟨p, 0, none⟩), x] w fun e w' =>
      e = .returned (.int .i64 (min xs.length (1024 - l.length) : Nat)) ∧ RadioAt w' p (grow F w w') (l ++ xs.take (1024 - l.length)) ∧ Mod F w w' := by
  obtain ⟨hF, hFl, v, hB, hO, hv⟩ := h
  obtain ⟨ad, c, rfl⟩ := hO.vee
  obtain ⟨ad2, c2, rfl⟩ := hx.vee
  have hc : w.cell? ⟨p, 0, none⟩ = some (.slice ad l.length c) := hB.cell 0
  -- how many are taken
  obtain ⟨m, hm⟩ : ∃ m, m = min xs.length (1024 - l.length) := ⟨_, rfl⟩
  have htk : xs.take (1024 - l.length) = (xs.drop 0).take m := by
    rw [List.drop_zero]
    by_cases hle : xs.length ≤ 1024 - l.length
    · rw [List.take_of_length_le hle, List.take_of_length_le (by omega)]
    · rw [show m = 1024 - l.length by omega]
  rw [htk, ← hm]
  have hmx : m ≤ xs.length := by omega
  have hml : l.length + m ≤ 1024 := by omega
  have hlen : ((xs.drop 0).take m).length = m := by simp [hmx]
  have hmi : Hid ((m : Int) = min (xs.length : Int) (1024 - (l.length : Int))) := by show _ = _; omega
  have hM : xs.length ≤ 1024 - l.length ∨ 1024 - l.length < xs.length := by omega
  clear htk
  clear hm
  generalize hys : (xs.drop 0).take m = ys at hlen ⊢
  have HY := Lib.hid hys
  have HL := Lib.hid hlen
  clear hys hlen
  go_enter Try.func10, Try.ntmps10
  go_wp2
  all_goals
    refine wp_region_text (by kernel_rfl) (by kernel_rfl) ?_
    go_wp2_with (first
      | (refine wl_at (o := ⟨some 24, _, _, _, _, _⟩) ?_
         go_must (refine wl_sub (l := 0) (h := m) (k := m) rfl rfl rfl (.inl ⟨rfl, rfl⟩) (.inr ⟨_, _, rfl, (by have := hmi.out; omega)⟩) teleTy.und teleTy.size hx (Nat.zero_add _) hmx ?_
                  intro ad3 c3 hs3 ho3
                  rw [HY.out] at hs3))
      | (refine wl_at (o := ⟨some 25, _, _, _, _, _⟩) ?_
         go_must (refine wl_app teleTy hO hs3 rfl rfl rfl rfl (by rw [HL.out]; unfold maxLen; omega) (by rw [HL.out]; omega) ?_
                  intro ad4 n4 c4 w4 ho4 hm4 hf4
                  replace hm4 := (Mod.drew w).trans hm4))
      | (refine wl_at (o := ⟨none, .store 35 _ _, _, _, _, _⟩) ?_
         go_must (refine wl_store (v := .slice ad4 n4 c4) rfl rfl rfl rfl (by kernel_rfl) rfl (hB.mod hm4 fun h => (hv p h).2 rfl) (by simp) ?_
                  intro w5 hB5 hm5)))
    refine ⟨rfl, ?_⟩
    go_wp2
    go_ret
    have hM5 : Mod F w w5 := (hm4.mono fun b hb => (hv b hb).1).trans (hm5.mono fun b hb => by cases hb; exact hF)
    refine ⟨by have := hmi.out; simp; omega, ⟨.inl hF, grow_lt hFl hM5.size, _, hB5, ho4.mod hm5 ?_, fun b hb => ?_⟩, hM5⟩
    · intro b hb he
      cases he
      rcases hf4 _ hb with h | h
      · exact (hv _ h).2 rfl
      · have := hFl _ hF; simp at h; omega
    · have hlt := ho4.lt b hb
      rcases hf4 b hb with h | h
      · exact ⟨.inl (hv b h).1, (hv b h).2⟩
      · have h' : w.heap.size ≤ b := h
        exact ⟨.inr ⟨h', Nat.lt_of_lt_of_le hlt hm5.size⟩, by have := hFl _ hF; omega⟩

set_option maxHeartbeats 400000 in
theorem new_calls (w : World) : Calls Try.prog 9 #[] w fun e w' => ∃ p, e = .returned (.pointer (some ⟨p, 0, none⟩)) ∧ w.heap.size ≤ p ∧ RadioAt w' p (only p) [] ∧ Mod none' w w' := by
  go_enter Try.func9, Try.ntmps9
  go_wp2_with (refine wl_at (o := ⟨some 2, _, _, _, _, _⟩) ?_
               go_must (refine wl_box (v := .agg #[.slice none 0 0]) rfl rfl rfl rfl ?_
                        intro w1 b1 h1 hB1 hm1))
  go_ret
  refine ⟨b1, rfl, h1, ⟨rfl, fun b hb => ?_, _, hB1, Ow.nil _ _ _, fun b hb => by cases hb⟩, hm1⟩
  cases hb
  exact hB1.lt

/-- s[:i] behind s[j:] in its place: the one telegram at i is gone. -/
theorem cut_cells {l : List Tele} {cur : List Value} {i : Nat} (hi : i < l.length) (hcur : cur.take (l.length * 19) = flat Tele.cells l) (hlen : l.length * 19 ≤ cur.length) {ys : List Value} (hy : ys.length = 19) (zs : List Value) (hz : zs = cur.take (i * 19) ++ flat Tele.cells (l.drop (i + 1)) ++ cur.drop ((l.length - 1) * 19)) :
    ((zs.take ((l.length - 1) * 19)) ++ ys ++ zs.drop ((l.length - 1) * 19 + 1 * 19)).take ((l.length - 1) * 19) = flat Tele.cells (l.eraseIdx i) ∧ ((zs.take ((l.length - 1) * 19)) ++ ys ++ zs.drop ((l.length - 1) * 19 + 1 * 19)).length = cur.length := by
  have h1 : (cur.take (i * 19)).length = i * 19 := by rw [List.length_take]; omega
  have h2 : (flat Tele.cells (l.drop (i + 1))).length = (l.length - (i + 1)) * 19 := by rw [flat_length Tele.cells 19 (fun _ => rfl)]; simp
  have h3 : zs.length = cur.length := by rw [hz]; simp only [List.length_append, h1, h2, List.length_drop]; omega
  have h4 : zs.take ((l.length - 1) * 19) = flat Tele.cells (l.eraseIdx i) := by
    have e1 : cur.take (i * 19) = flat Tele.cells (l.take i) := by
      rw [flat_take Tele.cells 19 (fun _ => rfl), ← hcur, List.take_take, Nat.min_eq_left (by omega)]
    rw [hz, List.take_append_of_le_length (by rw [List.length_append, h1, h2]; omega), List.take_of_length_le (by rw [List.length_append, h1, h2]; omega), e1, ← flat_append, List.eraseIdx_eq_take_drop_succ]
  have h5 : (zs.take ((l.length - 1) * 19)).length = (l.length - 1) * 19 := by rw [List.length_take]; omega
  constructor
  · rw [List.append_assoc, List.take_append_of_le_length (by omega), List.take_of_length_le (by omega), h4]
  · simp only [List.length_append, h5, hy, List.length_drop, h3]; omega

set_option maxHeartbeats 1000000 in
theorem delete_calls {g cap : Nat} {l : List Tele} {cur : List Value} {i : Nat} {w : World} (hB : Blk w g cur 33) (hcap : l.length ≤ cap) (hcl : cur.length = cap * 19) (hcm : cap ≤ maxLen) (hcur : cur.take (l.length * 19) = flat Tele.cells l) (hi : i < l.length) (hl : l.length ≤ 1024) :
    Calls Try.prog 21 #[.slice (some ⟨g, 0, none⟩) l.length cap, .int .i64 (i : Int), .int .i64 ((i : Int) + 1)] w fun e w' =>
      e = .returned (.slice (some ⟨g, 0, none⟩) (l.length - 1) cap) ∧ Ow w' 33 elTele (.slice (some ⟨g, 0, none⟩) (l.length - 1) cap) (l.eraseIdx i) ∧ Mod (only g) w w' := by
  have hne : ((i : Int) == (i : Int) + 1) = false := beq_eq_false_iff_ne.2 (by omega)
  have hsl : Rd w elTele (.slice (some ⟨g, 0, none⟩) l.length cap) l := ⟨elTele.flat_len l, _, cap, rfl, hcap, .inr ⟨g, 0, rfl, hB.at fun j u hu => by
    rw [Nat.zero_add]
    have hu' : (flat Tele.cells l)[j]? = some u := hu
    rw [← hcur, List.getElem?_take] at hu'
    split at hu'
    · exact hu'
    · cases hu'⟩⟩
  have hdl : (l.drop (i + 1)).length = l.length - (i + 1) := List.length_drop
  have HD := Lib.hid hdl
  have HC := Lib.hid hcur
  have HCL := Lib.hid hcl
  clear hdl hcur hcl
  go_enter Try.func21, Try.ntmps21
  go_wp2_with (first
    | (refine wl_at (o := ⟨some 13, _, _, _, _, _⟩) ?_
       go_must (refine wl_val (w' := w) rfl (by simp only [execOp, Sem.run_bind]; exact congrArg (fun r => Result.andThen r _) (run_slice3 (sz := 19) (l := i) (h := i + 1) (m := l.length) teleTy.und teleTy.size (by omega) (by omega) hcap)) ?_)))
  refine wp_region_text (by kernel_rfl) (by kernel_rfl) ?_
  go_wp2_with (first
    | (refine wl_at (o := ⟨some 22, _, _, _, _, _⟩) ?_
       go_must (refine wl_subX (l := 0) (h := i) (k := i) rfl rfl rfl (.inl ⟨rfl, rfl⟩) (.inr ⟨_, _, rfl, rfl⟩) teleTy.und teleTy.size (Nat.zero_add _) (by omega) (.inr rfl) ?_))
    | (refine wl_at (o := ⟨some 25, _, _, _, _, _⟩) ?_
       go_must (refine wl_sub (l := i + 1) (h := l.length) (k := l.length - (i + 1)) rfl rfl rfl (.inr ⟨_, _, rfl, rfl⟩) (.inl ⟨rfl, rfl⟩) teleTy.und teleTy.size hsl (by omega) (Nat.le_refl _) ?_
                intro ad3 c3 hs3 ho3
                rw [List.take_of_length_le (by rw [HD.out]; omega)] at hs3))
    | (refine wl_at (o := ⟨some 26, _, _, _, _, _⟩) ?_
       go_must (refine wl_appR (k := i) (cap := cap) teleTy hB HCL.out hs3 rfl rfl (by rfl) (by rfl) (by rw [HD.out]; omega) ?_
                intro w4 hB4 hm4
                rw [show i + (l.drop (i + 1)).length = l.length - 1 from by rw [HD.out]; omega] at hB4 ⊢
                replace hm4 := (Mod.drew w).trans hm4)))
  refine ⟨rfl, ?_⟩
  have hcut := fun ys hy => cut_cells (cur := cur) hi HC.out (by rw [HCL.out]; omega) (ys := ys) hy _ rfl
  have hz : (cur.take (i * elTele.sz) ++ flat elTele.cells (l.drop (i + 1)) ++ cur.drop ((l.length - 1) * elTele.sz)).length = cur.length := by
    have h2 : (flat elTele.cells (l.drop (i + 1))).length = (l.length - (i + 1)) * 19 := by rw [elTele.flat_len, HD.out]; rfl
    have := HCL.out
    simp only [List.length_append, List.length_take, List.length_drop, h2, show elTele.sz = 19 from rfl]
    omega
  have HZ := Lib.hid hz
  have HCUT := Lib.hid hcut
  clear hz hcut
  go_wp2_with (first
    | (refine wl_at (o := ⟨some 31, _, _, _, _, _⟩) ?_
       go_must (refine wl_subX (l := l.length - 1) (h := l.length) (k := 1) rfl rfl rfl (.inr ⟨_, _, rfl, rfl⟩) (.inr ⟨_, _, rfl, rfl⟩) teleTy.und teleTy.size (by omega) hcap (.inl (by omega)) ?_))
    | (refine wl_at (o := ⟨none, .call _, _, _, _, _⟩) ?_
       go_must (refine wl_clr (g := g) (k := (l.length - 1) * 19) teleTy rfl rfl (by rfl) hB4 (.inr (by simp [elTele])) (by rw [HZ.out, HCL.out]; simp only [show elTele.sz = 19 from rfl]; omega) ?_
                intro w5 ys5 hy5 hB5 hm5)))
  go_ret
  obtain ⟨hc1, hc2⟩ := HCUT.out ys5 hy5
  have hel : (l.eraseIdx i).length = l.length - 1 := by rw [List.length_eraseIdx, if_pos hi]
  refine ⟨rfl, ⟨?_, .inr ⟨g, cap, _, ?_, Nat.zero_le _, hB5, ?_, hcm, ?_, ?_⟩⟩, hm4.trans hm5⟩
  · rw [hel, ← hel]; exact elTele.flat_len _
  · rw [hel]
  · omega
  · simp only [List.size_toArray]; exact hc2.trans HCL.out
  · rw [hel]; exact hc1

def teleZ : Tele := ⟨0, 0, 0, 0, ⟨0, 0, 0, ⟨⟨0, 0⟩, false⟩, ⟨⟨0, 0⟩, false⟩, 0, 0⟩, ⟨⟨0, 0⟩, false⟩, 0⟩
theorem Tele.one (t : Tele) : ∀ v ∈ t.cells, v.oneCell' = true := elTele.one t

set_option maxHeartbeats 1000000 in
theorem hear0_calls {p : Nat} {F : Nat → Prop} {w : World} (i : Int) (keep : Bool) (h : RadioAt w p F []) :
    Calls Try.prog 12 #[.pointer (some ⟨p, 0, none⟩), .int .i64 i, .bool keep] w fun e w' =>
      e = .returned (.tuple #[.agg teleZ.cells.toArray, .bool false]) ∧ Mod none' w w' := by
  go_enter Try.func12, Try.ntmps12
  go_wp2_with (first
    | (refine wl_at (o := ⟨some 6, _, _, _, _, _⟩) ?_
       go_must (refine wl_alloc (z := .agg teleZ.cells.toArray) (zs := teleZ.cells) rfl rfl (by kernel_rfl) rfl ?_
                intro w1 b1 h1 hB1 hm1))
    | (go_at_call 20; go_must (refine (place0_calls i (h.mod hm1 fun _ _ h => h)).mono ?_; rintro e w' ⟨rfl, rfl⟩))
    | (refine wl_at (o := ⟨none, .store 33 _ _, _, _, _, _⟩) ?_
       go_must (refine wl_storeW (vs := teleZ.cells) rfl rfl rfl rfl (by kernel_rfl) rfl (Tele.one _) hB1 rfl ?_
                intro w2 hB2 hm2)))
  exact bodyPost_ret (res_cellS_tmp rfl _ rfl (by kernel_rfl) rfl hB2.at0) rfl ⟨rfl, hm1.drop hm2 fun b hb => .inr (by cases hb; exact h1)⟩

set_option maxHeartbeats 1000000 in
/-- It stays. -/
theorem hearK_calls {p : Nat} {F : Nat → Prop} {l : List Tele} {t : Tele} {k : Nat} {w : World} (i : Int) (h : RadioAt w p F l) (h0 : 0 < l.length) (hl : l.length ≤ 1024) (hk : i % (l.length : Int) = k) (ht : l[k]? = some t) :
    Calls Try.prog 12 #[.pointer (some ⟨p, 0, none⟩), .int .i64 i, .bool true] w fun e w' =>
      e = .returned (.tuple #[.agg t.cells.toArray, .bool true]) ∧ Mod none' w w' := by
  have hpl : ∀ W : World, RadioAt W p F l → Calls Try.prog 20 #[.pointer (some ⟨p, 0, none⟩), .int .i64 i] W fun e w' => e = .returned (.int .i64 (k : Int)) ∧ W = w' := fun W hW => by
    rw [← hk]; exact place_calls i hW h0 hl
  have HP := Lib.hid hpl
  clear hpl hk
  have h' := h
  obtain ⟨hF, hFl, v, hB, hO, hv⟩ := h'
  obtain ⟨ad, c, rfl⟩ := hO.vee
  have HT := Lib.hid ht
  clear ht
  go_enter Try.func12, Try.ntmps12
  go_wp2_with (first
    | (refine wl_at (o := ⟨some 6, _, _, _, _, _⟩) ?_
       go_must (refine wl_alloc (z := .agg teleZ.cells.toArray) (zs := teleZ.cells) rfl rfl (by kernel_rfl) rfl ?_
                intro w1 b1 h1 hB1 hm1
                have hc1 : w1.cell? ⟨p, 0, none⟩ = some (.slice ad l.length c) := (hB.mod hm1 fun h => h).cell 0))
    | (go_at_call 20; go_must (refine (HP.out _ (h.mod hm1 fun _ _ h => h)).mono ?_; rintro e w' ⟨rfl, rfl⟩))
    | (refine wl_at (o := ⟨some 21, _, _, _, _, _⟩) ?_
       go_must (refine wl_ix rfl rfl rfl rfl teleTy.und teleTy.size ((hO.mod hm1 fun b _ h => h).rd) HT.out ?_
                intro b5 k5 hat5 hbk5))
    | (refine wl_at (o := ⟨some 22, _, _, _, _, _⟩) ?_
       go_must (refine wl_loadS rfl rfl rfl (by kernel_rfl) (elTele.len t) hat5 ?_))
    | (refine wl_at (o := ⟨some 9, _, _, _, _, _⟩) ?_
       go_must (refine wl_alloc (z := .agg teleZ.cells.toArray) (zs := teleZ.cells) rfl rfl (by kernel_rfl) rfl ?_
                intro w2 b2 h2 hB2 hm2))
    | (refine wl_at (o := ⟨none, .store 33 (.tmp 9) _, _, _, _, _⟩) ?_
       go_must (refine wl_storeW (vs := t.cells) rfl rfl rfl rfl (by kernel_rfl) (elTele.len t) (Tele.one _) hB2 rfl ?_
                intro w3 hB3 hm3))
    | (refine wl_at (o := ⟨some 36, _, _, _, _, _⟩) ?_
       go_must (refine wl_loadS rfl rfl rfl (by kernel_rfl) (elTele.len t) hB3.at0 ?_))
    | (refine wl_at (o := ⟨none, .store 33 (.tmp 6) _, _, _, _, _⟩) ?_
       go_must (refine wl_storeW (vs := t.cells) rfl rfl rfl rfl (by kernel_rfl) (elTele.len t) (Tele.one _) ((hB1.mod hm2 fun h => h).mod hm3 (by have := hB1.lt; intro h; cases h; omega)) rfl ?_
                intro w4 hB4 hm4)))
  have hM := (hm1.trans hm2).drop hm3 fun b hb => .inr (by cases hb; have := hm1.size; omega)
  exact bodyPost_ret (res_cellS_tmp rfl _ rfl (by kernel_rfl) (elTele.len t) hB4.at0) rfl ⟨rfl, hM.drop hm4 fun b hb => .inr (by cases hb; exact h1)⟩

set_option maxHeartbeats 2000000 in
/-- It is gone. -/
theorem hearD_calls {p : Nat} {F : Nat → Prop} {l : List Tele} {t : Tele} {k : Nat} {w : World} (i : Int) (h : RadioAt w p F l) (h0 : 0 < l.length) (hl : l.length ≤ 1024) (hk : i % (l.length : Int) = k) (ht : l[k]? = some t) :
    Calls Try.prog 12 #[.pointer (some ⟨p, 0, none⟩), .int .i64 i, .bool false] w fun e w' =>
      e = .returned (.tuple #[.agg t.cells.toArray, .bool true]) ∧ RadioAt w' p F (l.eraseIdx k) ∧ Mod F w w' := by
  have hpl : ∀ W : World, RadioAt W p F l → Calls Try.prog 20 #[.pointer (some ⟨p, 0, none⟩), .int .i64 i] W fun e w' => e = .returned (.int .i64 (k : Int)) ∧ W = w' := fun W hW => by
    rw [← hk]; exact place_calls i hW h0 hl
  have HP := Lib.hid hpl
  clear hpl hk
  have h' := h
  obtain ⟨hF, hFl, v, hB, hO, hv⟩ := h'
  have hkl : k < l.length := (List.getElem?_eq_some_iff.1 ht).1
  have hO' := hO
  obtain ⟨hlen, hO'⟩ := hO'
  obtain ⟨g, cap, cur, rfl, _, hg, hcap, hcm, hcs, hcur⟩ : ∃ g cap cur, v = .slice (some ⟨g, 0, none⟩) l.length cap ∧ 0 ≤ g ∧ w.heap[g]? = some (.cells cur 33 (0, 0)) ∧ l.length ≤ cap ∧ cap ≤ maxLen ∧ cur.size = cap * 19 ∧ cur.toList.take (l.length * 19) = flat Tele.cells l := by
    rcases hO' with ⟨_, h⟩ | h
    · omega
    · exact h
  obtain ⟨hFg, hgp⟩ := hv g rfl
  have hBg : Blk w g cur.toList 33 := by unfold Blk; simpa using hg
  have HT := Lib.hid ht
  have HC := Lib.hid hcur
  have HS := Lib.hid hcs
  have HO := Lib.hid hO
  clear ht hcur hcs hg hO hlen
  go_enter Try.func12, Try.ntmps12
  go_wp2_with (first
    | (refine wl_at (o := ⟨some 6, _, _, _, _, _⟩) ?_
       go_must (refine wl_alloc (z := .agg teleZ.cells.toArray) (zs := teleZ.cells) rfl rfl (by kernel_rfl) rfl ?_
                intro w1 b1 h1 hB1 hm1
                have hc1 : w1.cell? ⟨p, 0, none⟩ = some (.slice (some ⟨g, 0, none⟩) l.length cap) := (hB.mod hm1 fun h => h).cell 0))
    | (go_at_call 20; go_must (refine (HP.out _ (h.mod hm1 fun _ _ h => h)).mono ?_; rintro e w' ⟨rfl, rfl⟩))
    | (refine wl_at (o := ⟨some 21, _, _, _, _, _⟩) ?_
       go_must (refine wl_ix rfl rfl rfl rfl teleTy.und teleTy.size ((HO.out.mod hm1 fun b _ h => h).rd) HT.out ?_
                intro b5 k5 hat5 hbk5))
    | (refine wl_at (o := ⟨some 22, _, _, _, _, _⟩) ?_
       go_must (refine wl_loadS rfl rfl rfl (by kernel_rfl) (elTele.len t) hat5 ?_))
    | (refine wl_at (o := ⟨some 9, _, _, _, _, _⟩) ?_
       go_must (refine wl_alloc (z := .agg teleZ.cells.toArray) (zs := teleZ.cells) rfl rfl (by kernel_rfl) rfl ?_
                intro w2 b2 h2 hB2 hm2))
    | (refine wl_at (o := ⟨none, .store 33 (.tmp 9) _, _, _, _, _⟩) ?_
       go_must (refine wl_storeW (vs := t.cells) rfl rfl rfl rfl (by kernel_rfl) (elTele.len t) (Tele.one _) hB2 rfl ?_
                intro w3 hB3 hm3
                have hM3 : Mod none' w w3 := (hm1.trans hm2).drop hm3 fun b hb => .inr (by cases hb; have := hm1.size; omega)
                have hBp3 := hB.mod hM3 fun h => h
                have hBg3 := hBg.mod hM3 fun h => h
                have hB13 := (hB1.mod hm2 fun h => h).mod hm3 (by have := hB1.lt; intro h; cases h; omega)
                have hc3 : w3.cell? ⟨p, 0, none⟩ = some (.slice (some ⟨g, 0, none⟩) l.length cap) := hBp3.cell 0))
    | (go_at_call 21
       go_must (refine (delete_calls hBg3 hcap (by simpa using HS.out) hcm HC.out hkl hl).mono ?_
                rintro e w4 ⟨rfl, hO4, hm4⟩
                have hBp4 := hBp3.mod hm4 (fun h => hgp h.symm)))
    | (refine wl_at (o := ⟨none, .store 35 _ _, _, _, _, _⟩) ?_
       go_must (refine wl_store (v := .slice (some ⟨g, 0, none⟩) (l.length - 1) cap) rfl rfl rfl rfl (by kernel_rfl) rfl hBp4 (by simp) ?_
                intro w5 hB5 hm5
                have hB35 := (hB3.mod hm4 (by have := hBg.lt; have := hm1.size; intro h; cases h; omega)).mod hm5 (by have := hB.lt; have := hm1.size; intro h; cases h; omega)
                have hB15 := (hB13.mod hm4 (by have := hBg.lt; intro h; cases h; omega)).mod hm5 (by have := hB.lt; intro h; cases h; omega)))
    | (refine wl_at (o := ⟨some 36, _, _, _, _, _⟩) ?_
       go_must (refine wl_loadS rfl rfl rfl (by kernel_rfl) (elTele.len t) hB35.at0 ?_))
    | (refine wl_at (o := ⟨none, .store 33 (.tmp 6) _, _, _, _, _⟩) ?_
       go_must (refine wl_storeW (vs := t.cells) rfl rfl rfl rfl (by kernel_rfl) (elTele.len t) (Tele.one _) hB15 rfl ?_
                intro w6 hB6 hm6)))
  have hM5 : Mod F w w5 := ((hM3.mono (G := F) fun b hb => hb.elim).trans (hm4.mono fun b hb => by cases hb; exact hFg)).trans (hm5.mono fun b hb => by cases hb; exact hF)
  have hp1 : ∀ b, b < w.heap.size → ¬ only b1 b := fun b hb h => by cases h; omega
  refine bodyPost_ret (res_cellS_tmp rfl _ rfl (by kernel_rfl) (elTele.len t) hB6.at0) rfl ⟨rfl, ⟨hF, fun b hb => ?_, _, hB5.mod hm6 (hp1 _ (hFl _ hF)), (hO4.mod hm5 ?_).mod hm6 ?_, ?_⟩, hM5.drop hm6 fun b hb => .inr (by cases hb; exact h1)⟩
  · have := hFl b hb; have := hM5.size; have := hm6.size; omega
  · intro b hb he; cases hb; exact hgp he
  · intro b hb; cases hb; exact hp1 _ (hFl _ hFg)
  · intro b hb; cases hb; exact ⟨hFg, hgp⟩

set_option maxHeartbeats 1000000 in
theorem lose0_calls {p : Nat} {F : Nat → Prop} {w : World} (i : Int) (h : RadioAt w p F []) :
    Calls Try.prog 14 #[.pointer (some ⟨p, 0, none⟩), .int .i64 i] w fun e w' => e = .returned (.bool false) ∧ Mod none' w w' := by
  go_enter Try.func14, Try.ntmps14
  go_wp2_with (first
    | (go_at_call 12; go_must (refine (hear0_calls i false h).mono ?_; rintro e w1 ⟨rfl, hm1⟩))
    | (refine wl_at (o := ⟨some 5, _, _, _, _, _⟩) ?_
       go_must (refine wl_alloc (z := .agg teleZ.cells.toArray) (zs := teleZ.cells) rfl rfl (by kernel_rfl) rfl ?_
                intro w2 b2 h2 hB2 hm2))
    | (refine wl_at (o := ⟨none, .store 33 _ _, _, _, _, _⟩) ?_
       go_must (refine wl_storeW (vs := teleZ.cells) rfl rfl rfl rfl (by kernel_rfl) rfl (Tele.one _) hB2 rfl ?_
                intro w3 hB3 hm3)))
  go_ret
  exact ⟨rfl, (hm1.trans hm2).drop hm3 fun b hb => .inr (by cases hb; have := hm1.size; omega)⟩

set_option maxHeartbeats 1000000 in
theorem lose_calls {p : Nat} {F : Nat → Prop} {l : List Tele} {t : Tele} {k : Nat} {w : World} (i : Int) (h : RadioAt w p F l) (h0 : 0 < l.length) (hl : l.length ≤ 1024) (hk : i % (l.length : Int) = k) (ht : l[k]? = some t) :
    Calls Try.prog 14 #[.pointer (some ⟨p, 0, none⟩), .int .i64 i] w fun e w' => e = .returned (.bool true) ∧ RadioAt w' p F (l.eraseIdx k) ∧ Mod F w w' := by
  have HH := Lib.hid (hearD_calls i h h0 hl hk ht)
  clear hk ht
  go_enter Try.func14, Try.ntmps14
  go_wp2_with (first
    | (go_at_call 12; go_must (refine HH.out.mono ?_; rintro e w1 ⟨rfl, hR1, hm1⟩))
    | (refine wl_at (o := ⟨some 5, _, _, _, _, _⟩) ?_
       go_must (refine wl_alloc (z := .agg teleZ.cells.toArray) (zs := teleZ.cells) rfl rfl (by kernel_rfl) rfl ?_
                intro w2 b2 h2 hB2 hm2))
    | (refine wl_at (o := ⟨none, .store 33 _ _, _, _, _, _⟩) ?_
       go_must (refine wl_storeW (vs := t.cells) rfl rfl rfl rfl (by kernel_rfl) (elTele.len t) (Tele.one _) hB2 rfl ?_
                intro w3 hB3 hm3)))
  go_ret
  have hne : ∀ b, F b → ¬ only b2 b := fun b hb h => by cases h; have := hR1.2.1 _ hb; omega
  exact ⟨rfl, (hR1.mod hm2 fun _ _ h => h).mod hm3 hne, (hm1.trans (hm2.mono fun _ h => h.elim)).drop hm3 fun b hb => .inr (by cases hb; have := hm1.size; omega)⟩
end Go.Proofs.Ythbhbklbhfadnaa
