/- What goes through a radio's telegrams, and whether two lists of telegrams are the same. -/
import Derived.Test.YthbhbklbhfadnaaRad2
namespace Go.Proofs.Ythbhbklbhfadnaa
open Go Go.Sk Go.RowKit

theorem teleEqB : eqTy Try.prog 33 teleKs = true := by kernel_rfl

/-- At the loop's head: so far they are the same. -/
def SameAt (w : World) (a b : List Tele) (i : Value) (wr : World) : Prop :=
  ∃ j : Nat, i = .int .i64 j ∧ j ≤ a.length ∧ a.take j = b.take j ∧ Mod none' w wr

set_option maxHeartbeats 2000000 in
theorem same_calls (a b : List Tele) (va vb : Value) (w : World) (ha : Rd w elTele va a) (hb : Rd w elTele vb b) (hbd : a.length ≤ 9223372036854775807) :
    Calls Try.prog 19 #[va, vb] w fun e w' => e = .returned (.bool (decide (a = b))) ∧ Mod none' w w' := by
  obtain ⟨ad, c, rfl⟩ := ha.vee
  obtain ⟨ad2, c2, rfl⟩ := hb.vee
  by_cases hlen : a.length = b.length
  · have hne : decide ((a.length : Int) = (b.length : Int)) = true := decide_eq_true (by omega)
    have hne2 : ((a.length : Int) != (b.length : Int)) = false := by simp; omega
    have HL := Lib.hid hlen
    clear hlen
    go_enter Try.func19, Try.ntmps19
    go_wp2_with fail
    go_loopw [4, 5] (fun _ i wr => SameAt w a b i wr) (fun _ i _ => a.length - (intOf i).toNat)
    case atStart => exact ⟨0, rfl, Nat.zero_le _, by simp, Mod.refl _ _⟩
    case round =>
      obtain ⟨j, rfl, hj, heq, hM⟩ := hrel
      have HQ := Lib.hid heq
      clear heq
      by_cases hlt : j < a.length
      · obtain ⟨x, hx⟩ : ∃ x, a[j]? = some x := ⟨_, List.getElem?_eq_getElem hlt⟩
        obtain ⟨y, hy⟩ : ∃ y, b[j]? = some y := ⟨_, List.getElem?_eq_getElem (by have := HL.out; omega)⟩
        have HX := Lib.hid hx
        have HY := Lib.hid hy
        have ha1 : Rd wr elTele (.slice ad a.length c) a := ha.mod hM fun _ _ h => h
        have hb1 : Rd wr elTele (.slice ad2 b.length c2) b := hb.mod hM fun _ _ h => h
        have hce := Lib.hid (Tele.eq x y)
        clear hx hy
        by_cases hxy : x = y
        · subst hxy
          have hce1 : cellsEq x.cells x.cells = true := by rw [hce.out]; simp
          go_wp2_with (first
            | (refine wp_region_text (by kernel_rfl) (by kernel_rfl) ?_)
            | (refine atEnd_mk (by kernel_rfl) ?_)
            | (refine wl_at (o := ⟨some 19, _, _, _, _, _⟩) ?_
               go_must (refine wl_ix rfl rfl rfl rfl teleTy.und teleTy.size ha1 HX.out ?_
                        intro b7 k7 hat7 hbk7))
            | (refine wl_at (o := ⟨some 20, _, _, _, _, _⟩) ?_
               go_must (refine wl_loadS rfl rfl rfl (by kernel_rfl) (elTele.len x) hat7 ?_))
            | (refine wl_at (o := ⟨some 23, _, _, _, _, _⟩) ?_
               go_must (refine wl_ix rfl rfl rfl rfl teleTy.und teleTy.size hb1 HY.out ?_
                        intro b8 k8 hat8 hbk8))
            | (refine wl_at (o := ⟨some 24, _, _, _, _, _⟩) ?_
               go_must (refine wl_loadS rfl rfl rfl (by kernel_rfl) (elTele.len x) hat8 ?_))
            | (refine wl_at (o := ⟨some 25, _, _, _, _, _⟩) ?_
               go_must (refine wl_neqS (xs := x.cells) (ys := x.cells) rfl rfl rfl rfl teleEqB x.ks x.ks ?_
                        rw [hce1])))
          go_roundw
          case rel =>
            have R : SameAt w a b (.int .i64 ((j : Int) + 1)) wr.drew := ⟨j + 1, by go_num, by omega, by rw [List.take_add_one, List.take_add_one, HQ.out, HX.out, HY.out], hM.trans (Mod.drew _)⟩
            exact R
          case measure => simp [intOf]; omega
        · have hce1 : cellsEq x.cells y.cells = false := by rw [hce.out]; simp [hxy]
          go_wp2_with (first
            | (refine wp_region_text (by kernel_rfl) (by kernel_rfl) ?_)
            | (refine atEnd_mk (by kernel_rfl) ?_)
            | (refine wl_at (o := ⟨some 19, _, _, _, _, _⟩) ?_
               go_must (refine wl_ix rfl rfl rfl rfl teleTy.und teleTy.size ha1 HX.out ?_
                        intro b7 k7 hat7 hbk7))
            | (refine wl_at (o := ⟨some 20, _, _, _, _, _⟩) ?_
               go_must (refine wl_loadS rfl rfl rfl (by kernel_rfl) (elTele.len x) hat7 ?_))
            | (refine wl_at (o := ⟨some 23, _, _, _, _, _⟩) ?_
               go_must (refine wl_ix rfl rfl rfl rfl teleTy.und teleTy.size hb1 HY.out ?_
                        intro b8 k8 hat8 hbk8))
            | (refine wl_at (o := ⟨some 24, _, _, _, _, _⟩) ?_
               go_must (refine wl_loadS rfl rfl rfl (by kernel_rfl) (elTele.len y) hat8 ?_))
            | (refine wl_at (o := ⟨some 25, _, _, _, _, _⟩) ?_
               go_must (refine wl_neqS (xs := x.cells) (ys := y.cells) rfl rfl rfl rfl teleEqB x.ks y.ks ?_
                        rw [hce1])))
          go_ret
          have hab : decide (a = b) = false := decide_eq_false fun h => by
            subst h
            have := HX.out.symm.trans HY.out
            injection this with this
            exact hxy this
          exact ⟨by rw [hab]; rfl, hM.trans (Mod.drew _)⟩
      · obtain rfl : j = a.length := by omega
        go_wp2_with fail
        go_ret
        have hab : decide (a = b) = true := decide_eq_true (by
          have := HQ.out
          rwa [List.take_length, HL.out, List.take_length] at this)
        exact ⟨by rw [hab]; rfl, hM⟩
  · have hne : decide ((a.length : Int) = (b.length : Int)) = false := decide_eq_false (by omega)
    have hne2 : ((a.length : Int) != (b.length : Int)) = true := by simp; omega
    have hab : decide (a = b) = false := decide_eq_false fun h => hlen (by rw [h])
    go_enter Try.func19, Try.ntmps19
    go_wp2_with fail
    go_ret
    exact ⟨by rw [hab]; rfl, Mod.refl _ _⟩

theorem Rd.none_nil {w : World} {n c : Nat} {l : List Tele} (h : Rd w elTele (.slice none n c) l) : l = [] := by
  obtain ⟨_, _, _, h3, _, h4⟩ := h
  rcases h4 with h0 | ⟨b, o, h0, _⟩
  · exact List.eq_nil_of_length_eq_zero h0
  · subst h0; cases h3

set_option maxHeartbeats 1000000 in
/-- slices.Clone: in new memory, or nil. -/
theorem clone_calls (l : List Tele) (v : Value) (w : World) (h : Rd w elTele v l) (hl : l.length ≤ 1024) :
    Calls Try.prog 26 #[v] w fun e w' => ∃ v', e = .returned v' ∧ Rd w' elTele v' l ∧ Mod none' w w' ∧ (∀ b, v'.ownBlock = some b → w.heap.size ≤ b ∧ b < w'.heap.size) := by
  obtain ⟨ad, c, rfl⟩ := h.vee
  cases ad with
  | none =>
    obtain rfl := Rd.none_nil h
    go_enter Try.func26, Try.ntmps26
    go_wp2_with (first
      | (refine wl_at (o := ⟨some 4, _, _, _, _, _⟩) ?_
         go_must (refine wl_val (v := .bool true) (w' := w) rfl (by kernel_rfl) ?_)))
    go_ret
    exact ⟨_, rfl, Rd.nil _ _, Mod.refl _ _, fun b hb => by cases hb⟩
  | some A =>
    go_enter Try.func26, Try.ntmps26
    go_wp2_with (first
      | (refine wl_at (o := ⟨some 4, _, _, _, _, _⟩) ?_
         go_must (refine wl_val (v := .bool false) (w' := w) rfl (by kernel_rfl) ?_))
      | (refine wl_at (o := ⟨some 5, _, _, _, _, _⟩) ?_
         go_must (refine wl_buildSlice (e := 33) (cs := []) rfl rfl (fun W => by kernel_rfl) ?_
                  intro w2 b2 h2 hB2 hm2))
      | (refine wl_at (o := ⟨some 7, _, _, _, _, _⟩) ?_
         go_must (refine wl_app (xs := []) (ys := l) teleTy (hB2.ow (E := elTele) (l := []) rfl (Nat.zero_le _)) (h.mod hm2 fun _ _ h => h) rfl rfl rfl rfl (by simp; unfold maxLen; omega) (by simp; omega) ?_
                  intro ad4 n4 c4 w4 ho4 hm4 hf4)))
    go_ret
    have hM : Mod none' w w4 := hm2.drop hm4 fun b hb => .inr (by cases hb; exact h2)
    refine ⟨_, rfl, ho4.rd, hM, fun b hb => ⟨?_, ho4.lt b hb⟩⟩
    rcases hf4 b hb with h | h
    · cases h; exact h2
    · exact Nat.le_trans hm2.size h

set_option maxHeartbeats 400000 in
theorem all_calls {p : Nat} (w : World) : Calls Try.prog 23 #[.pointer (some ⟨p, 0, none⟩)] w fun e w' => ∃ b, e = .returned (.func (.func 25) #[] #[.pointer (some ⟨b, 0, none⟩)]) ∧ w.heap.size ≤ b ∧ Blk w' b [.pointer (some ⟨p, 0, none⟩)] 23 ∧ Mod none' w w' := by
  have hmf : ∀ (fn : Fn) (first cap : Array Value) (w : World), (Instr.makeFunc fn first cap).run Try.prog w = .ok (.func fn first cap) w := fun _ _ _ _ => rfl
  go_enter Try.func23, Try.ntmps23
  go_wp2_with (first
    | (refine wl_at (o := ⟨some 1, _, _, _, _, _⟩) ?_
       go_must (refine wl_box (v := .pointer (some ⟨p, 0, none⟩)) (zs := [.pointer (some ⟨p, 0, none⟩)]) rfl rfl rfl rfl ?_
                intro w2 b2 h2 hB2 hm2)))
  go_ret
  exact ⟨b2, rfl, h2, hB2, hm2⟩

/-- What the closure of 'all' has gathered: acc; F is its own memory. -/
structure AllAt (w : World) (F : Nat → Prop) (bo bl bm : Nat) (most : Int) (acc : List Tele) : Prop where
  o : Blk w bo [.bool true] 4
  m : Blk w bm [.int .i64 most] 3
  fo : F bo
  fl : F bl
  fm : F bm
  lt : ∀ b, F b → b < w.heap.size
  ol : bo ≠ bl
  om : bo ≠ bm
  lm : bl ≠ bm
  l : ∃ v, Blk w bl [v] 35 ∧ Ow w 33 elTele v acc ∧ ∀ b, v.ownBlock = some b → F b ∧ b ≠ bo ∧ b ≠ bl ∧ b ≠ bm

theorem AllAt.mod {w w' : World} {F G : Nat → Prop} {bo bl bm : Nat} {most : Int} {acc : List Tele} (h : AllAt w F bo bl bm most acc) (m : Mod G w w') (hG : ∀ b, F b → ¬ G b) : AllAt w' F bo bl bm most acc := by
  obtain ⟨v, h1, h2, h3⟩ := h.l
  exact ⟨h.o.mod m (hG _ h.fo), h.m.mod m (hG _ h.fm), h.fo, h.fl, h.fm, fun b hb => Nat.lt_of_lt_of_le (h.lt b hb) m.size, h.ol, h.om, h.lm, v, h1.mod m (hG _ h.fl), h2.mod m fun b hb => hG b (h3 b hb).1, h3⟩

set_option maxHeartbeats 1000000 in
theorem yield_calls {w : World} {F : Nat → Prop} {bo bl bm : Nat} {most : Int} {acc : List Tele} (t : Tele) (h : AllAt w F bo bl bm most acc) (hl : acc.length < 1024) :
    Calls Try.prog 24 #[.int .i64 (acc.length : Int), .agg t.cells.toArray, .pointer (some ⟨bo, 0, none⟩), .pointer (some ⟨bl, 0, none⟩), .pointer (some ⟨bm, 0, none⟩)] w fun e w' =>
      e = .returned (.bool (decide ((acc.length : Int) + 1 < most))) ∧ AllAt w' (grow F w w') bo bl bm most (acc ++ [t]) ∧ Mod F w w' := by
  obtain ⟨ho, hm, fo, fl, fm, hlt, hol, hom, hlm, v, hb, hO, hv⟩ := h
  obtain ⟨ad, c, rfl⟩ := hO.vee
  have hlo := hlt _ fo
  have hll := hlt _ fl
  have hlm' := hlt _ fm
  go_enter Try.func24, Try.ntmps24
  go_wp2_with (first
    | (refine wl_at (o := ⟨some 6, _, _, _, _, _⟩) ?_
       go_must (refine wl_box (v := .agg t.cells.toArray) (zs := t.cells) rfl rfl rfl rfl ?_
                intro w2 b2 h2 hB2 hm2
                have ho2 := ho.mod hm2 fun h => h
                have hb2 := hb.mod hm2 fun h => h
                have co2 : w2.cell? ⟨bo, 0, none⟩ = some (.bool true) := ho2.cell 0
                have cl2 : w2.cell? ⟨bl, 0, none⟩ = some (.slice ad acc.length c) := hb2.cell 0))
    | (refine wl_at (o := ⟨none, .store 4 _ _, _, _, _, _⟩) ?_
       go_must (refine wl_store (v := .bool true) rfl rfl rfl rfl (by kernel_rfl) rfl ho2 (by simp) ?_
                intro w3 hB3 hm3
                have hb3 := hb2.mod hm3 fun h => hol h.symm
                have cl3 : w3.cell? ⟨bl, 0, none⟩ = some (.slice ad acc.length c) := hb3.cell 0
                have ht3 := (hB2.mod hm3 fun h => by cases h; omega).at0))
    | (refine wl_at (o := ⟨some 16, _, _, _, _, _⟩) ?_
       go_must (refine wl_loadS rfl rfl rfl (by kernel_rfl) (elTele.len t) ht3 ?_))
    | (refine wl_at (o := ⟨some 17, _, _, _, _, _⟩) ?_
       go_must (refine wl_buildSlice (e := 33) (cs := flat Tele.cells [t]) rfl rfl (fun W => by kernel_rfl) ?_
                intro w4 b4 h4 hB4 hm4
                have hO4 := ((hO.mod hm2 fun _ _ h => h).mod hm3 fun b hb h => (hv b hb).2.1 h).mod hm4 fun _ _ h => h))
    | (refine wl_at (o := ⟨some 18, _, _, _, _, _⟩) ?_
       go_must (refine wl_app (xs := acc) (ys := [t]) teleTy hO4 (hB4.rd (E := elTele) rfl) rfl rfl rfl rfl (by simp; unfold maxLen; omega) (by simp; omega) ?_
                intro ad5 n5 c5 w5 ho5 hm5 hf5
                have hb5 := (hb3.mod hm4 fun h => h).mod hm5 fun h => (hv _ h).2.2.1 rfl))
    | (refine wl_at (o := ⟨none, .store 35 _ _, _, _, _, _⟩) ?_
       go_must (refine wl_store (v := .slice ad5 n5 c5) rfl rfl rfl rfl (by kernel_rfl) rfl hb5 (by simp) ?_
                intro w6 hB6 hm6
                have hm06 := ((((hm.mod hm2 fun h => h).mod hm3 fun h => hom h.symm).mod hm4 fun h => h).mod hm5 fun h => (hv _ h).2.2.2 rfl).mod hm6 fun h => hlm h.symm
                have cl6 : w6.cell? ⟨bl, 0, none⟩ = some (.slice ad5 n5 c5) := hB6.cell 0
                have cm6 : w6.cell? ⟨bm, 0, none⟩ = some (.int .i64 most) := hm06.cell 0
                have hn5 : n5 = acc.length + 1 := by have := Rd.n ho5.rd; simpa using this
                subst hn5)))
  go_ret
  have hM : Mod F w w6 := (((((hm2.mono fun b h => h.elim).trans (hm3.mono fun b hb => by cases hb; exact fo)).trans (hm4.mono fun b h => h.elim)).trans (hm5.mono fun b hb => (hv b hb).1)).trans (hm6.mono fun b hb => by cases hb; exact fl))
  have ho6 := ((hB3.mod hm4 fun h => h).mod hm5 fun h => (hv _ h).2.1 rfl).mod hm6 fun h => hol h
  have hs24 : w.heap.size ≤ w4.heap.size := Nat.le_trans hm2.size (Nat.le_trans hm3.size hm4.size)
  refine ⟨by simp, ⟨ho6, hm06, .inl fo, .inl fl, .inl fm, grow_lt hlt hM.size, hol, hom, hlm, _, hB6, ho5.mod hm6 fun b hb h => ?_, fun b hb => ?_⟩, hM⟩
  · cases h
    rcases hf5 _ hb with h | h
    · exact (hv _ h).2.2.1 rfl
    · omega
  · rcases hf5 b hb with h | h
    · obtain ⟨h1, h2, h3, h4⟩ := hv b h
      exact ⟨.inl h1, h2, h3, h4⟩
    · have h5 := ho5.lt b hb
      exact ⟨.inr ⟨by omega, Nat.lt_of_lt_of_le h5 hm6.size⟩, by omega, by omega, by omega⟩

/-- At the loop's head of All$1: j are told. -/
def AllRel (w : World) (F0 : Nat → Prop) (bo bl bm : Nat) (most : Int) (vc : Value) (l : List Tele) (i : Value) (wr : World) : Prop :=
  ∃ j : Nat, i = .int .i64 j ∧ j ≤ l.length ∧ (j : Int) < most ∧ Rd wr elTele vc l ∧ ∃ F, AllAt wr F bo bl bm most (l.take j) ∧ (∀ b, F b → F0 b ∨ w.heap.size ≤ b) ∧ (∀ b, vc.ownBlock = some b → ¬ F b ∧ b < wr.heap.size) ∧ Mod F0 w wr

set_option maxHeartbeats 2000000 in
theorem all1_calls {p br : Nat} {F G : Nat → Prop} {l : List Tele} {w : World} {bo bl bm : Nat} {most : Int} (hR : RadioAt w p F l) (hB : Blk w br [.pointer (some ⟨p, 0, none⟩)] 23) (hA : AllAt w G bo bl bm most []) (hl : l.length ≤ 1024) (h1 : 1 ≤ most) :
    Calls Try.prog 25 #[.func (.func 24) #[] #[.pointer (some ⟨bo, 0, none⟩), .pointer (some ⟨bl, 0, none⟩), .pointer (some ⟨bm, 0, none⟩)], .pointer (some ⟨br, 0, none⟩)] w fun e w' =>
      e = .returned (.tuple #[]) ∧ Mod G w w' ∧ ∃ F', AllAt w' F' bo bl bm most (l.take most.toNat) := by
  obtain ⟨hF, hFl, v, hBp, hO, hv⟩ := hR
  obtain ⟨ad, c, rfl⟩ := hO.vee
  have c1 : w.cell? ⟨br, 0, none⟩ = some (.pointer (some ⟨p, 0, none⟩)) := hB.cell 0
  have c2 : w.cell? ⟨p, 0, none⟩ = some (.slice ad l.length c) := hBp.cell 0
  go_enter Try.func25, Try.ntmps25
  go_wp2_with (first
    | (go_at_call 26
       go_must (refine (clone_calls l _ w hO.rd hl).mono ?_
                rintro e w1 ⟨vc, rfl, hRc, hm1, hvc⟩
                obtain ⟨adc, cc, rfl⟩ := hRc.vee)))
  go_loopw [3, 4, 13] (fun _ _ i wr => AllRel w G bo bl bm most (.slice adc l.length cc) l i wr) (fun _ _ i _ => l.length - (intOf i).toNat)
  case atStart => exact ⟨0, rfl, Nat.zero_le _, by omega, hRc, G, ⟨hA.o.mod hm1 fun h => h, hA.m.mod hm1 fun h => h, hA.fo, hA.fl, hA.fm, fun b hb => Nat.lt_of_lt_of_le (hA.lt b hb) hm1.size, hA.ol, hA.om, hA.lm, (by
      obtain ⟨v, h1, h2, h3⟩ := hA.l
      exact ⟨v, h1.mod hm1 fun h => h, h2.mod hm1 fun _ _ h => h, h3⟩)⟩, fun b hb => .inl hb, fun b hb => ⟨fun hg => by have := hA.lt b hg; have := (hvc b hb).1; omega, (hvc b hb).2⟩, hm1.mono fun _ h => h.elim⟩
  case round =>
    obtain ⟨j, rfl, hj, hjm, hR2, H, hA2, hH, hvc2, hM⟩ := hrel
    by_cases hlt : j < l.length
    · obtain ⟨x, hx⟩ : ∃ x, l[j]? = some x := ⟨_, List.getElem?_eq_getElem hlt⟩
      have HX := Lib.hid hx
      clear hx
      have htl : (l.take j).length = j := by rw [List.length_take]; omega
      have HT := Lib.hid htl
      have hY := fun (W : World) (h : AllAt W H bo bl bm most (l.take j)) => yield_calls x h (by rw [htl]; omega)
      rw [htl] at hY
      have HY := Lib.hid hY
      clear htl hY
      by_cases hmo : (j : Int) + 1 < most
      · have hd : decide ((j : Int) + 1 < most) = true := decide_eq_true hmo
        go_wp2_with (first
          | (refine wl_at (o := ⟨some 16, _, _, _, _, _⟩) ?_
             go_must (refine wl_ix rfl rfl rfl rfl teleTy.und teleTy.size hR2 HX.out ?_
                      intro b7 k7 hat7 hbk7))
          | (refine wl_at (o := ⟨some 17, _, _, _, _, _⟩) ?_
             go_must (refine wl_loadS rfl rfl rfl (by kernel_rfl) (elTele.len x) hat7 ?_))
          | (refine wl_at (o := ⟨some 4, _, _, _, _, _⟩) ?_
             go_must (refine wl_alloc (z := .agg teleZ.cells.toArray) (zs := teleZ.cells) rfl rfl (by kernel_rfl) rfl ?_
                      intro w3 b3 h3 hB3 hm3))
          | (refine wl_at (o := ⟨none, .store 33 _ _, _, _, _, _⟩) ?_
             go_must (refine wl_storeW (vs := x.cells) rfl rfl rfl rfl (by kernel_rfl) (elTele.len x) (Tele.one _) hB3 rfl ?_
                      intro w4 hB4 hm4
                      have hm34 : Mod none' wr w4 := hm3.drop hm4 fun b hb => .inr (by cases hb; exact h3)
                      have hA4 := hA2.mod hm34 fun _ _ h => h))
          | (refine wl_at (o := ⟨some 20, _, _, _, _, _⟩) ?_
             go_must (refine wl_loadS rfl rfl rfl (by kernel_rfl) (elTele.len x) hB4.at0 ?_))
          | (go_at_call 24
             go_must (refine (HY.out _ hA4).mono ?_
                      rintro e w5 ⟨rfl, hA5, hm5⟩)))
        go_roundw
        case rel =>
          have R : AllRel w G bo bl bm most (.slice adc l.length cc) l (.int .i64 ((j : Int) + 1)) w5 := by
            refine ⟨j + 1, by go_num, by omega, by omega, (hR2.mod hm34 fun _ _ h => h).mod hm5 fun b hb => (hvc2 b hb).1, grow H w4 w5, ?_, ?_, ?_, ?_⟩
            · rw [List.take_add_one, HX.out]; exact hA5
            · intro b hb
              rcases hb with hb | hb
              · exact hH b hb
              · right; have := hM.size; have := hm34.size; omega
            · intro b hb
              obtain ⟨h1, h2⟩ := hvc2 b hb
              have := hm34.size; have := hm5.size
              exact ⟨fun hg => hg.elim h1 (by omega), by omega⟩
            · exact (hM.trans (hm34.mono fun _ h => h.elim)).drop hm5 hH
          exact R
        case measure => simp [intOf]; omega
      · have hd : decide ((j : Int) + 1 < most) = false := decide_eq_false hmo
        go_wp2_with (first
          | (refine wl_at (o := ⟨some 16, _, _, _, _, _⟩) ?_
             go_must (refine wl_ix rfl rfl rfl rfl teleTy.und teleTy.size hR2 HX.out ?_
                      intro b7 k7 hat7 hbk7))
          | (refine wl_at (o := ⟨some 17, _, _, _, _, _⟩) ?_
             go_must (refine wl_loadS rfl rfl rfl (by kernel_rfl) (elTele.len x) hat7 ?_))
          | (refine wl_at (o := ⟨some 4, _, _, _, _, _⟩) ?_
             go_must (refine wl_alloc (z := .agg teleZ.cells.toArray) (zs := teleZ.cells) rfl rfl (by kernel_rfl) rfl ?_
                      intro w3 b3 h3 hB3 hm3))
          | (refine wl_at (o := ⟨none, .store 33 _ _, _, _, _, _⟩) ?_
             go_must (refine wl_storeW (vs := x.cells) rfl rfl rfl rfl (by kernel_rfl) (elTele.len x) (Tele.one _) hB3 rfl ?_
                      intro w4 hB4 hm4
                      have hm34 : Mod none' wr w4 := hm3.drop hm4 fun b hb => .inr (by cases hb; exact h3)
                      have hA4 := hA2.mod hm34 fun _ _ h => h))
          | (refine wl_at (o := ⟨some 20, _, _, _, _, _⟩) ?_
             go_must (refine wl_loadS rfl rfl rfl (by kernel_rfl) (elTele.len x) hB4.at0 ?_))
          | (go_at_call 24
             go_must (refine (HY.out _ hA4).mono ?_
                      rintro e w5 ⟨rfl, hA5, hm5⟩)))
        first | (refine bodyPost_ret (results_none rfl _ _ _) rfl ?_) | (refine bodyPost_end (results_none rfl _ _ _) rfl ?_)
        refine ⟨rfl, (hM.trans (hm34.mono fun _ h => h.elim)).drop hm5 hH, grow H w4 w5, ?_⟩
        rw [show most.toNat = j + 1 by omega, List.take_add_one, HX.out]; exact hA5
    · obtain rfl : j = l.length := by omega
      go_wp2_with fail
      first | (refine bodyPost_ret (results_none rfl _ _ _) rfl ?_) | (refine bodyPost_end (results_none rfl _ _ _) rfl ?_)
      refine ⟨rfl, hM, H, ?_⟩
      rw [List.take_of_length_le (by omega)]
      rw [List.take_of_length_le (Nat.le_refl _)] at hA2
      exact hA2
end Go.Proofs.Ythbhbklbhfadnaa
