/- The stacks: Bins. -/
import Derived.Test.YtngeeilkpnihmaaGreatDoorBn1Q
set_option linter.all false
namespace Go.Proofs.YtngeeilkpnihmaaGreatDoor
open Go Go.Sk Go.RowKit
set_option maxRecDepth 100000

/-- All bins, as they come. -/
def SM.raw (c : ConfP) (m : SM) : List Int := (m.told c).flatMap (·.bins) ++ m.ld.filter fun b => b != 0
def SM.bins (c : ConfP) (m : SM) : List Int := sortI (m.raw c)
theorem flat_told {c : ConfP} {f : Cell → List Int} (hc : ∀ x, openB c x = false → f x = []) : ∀ n, ((List.range n).map fun k => f (cellAt c.w k)).flatten = (toldTo c f n).flatMap (·.bins)
  | 0 => rfl
  | n + 1 => by
    rw [List.range_succ, List.map_append, List.flatten_append, flat_told hc n, toldTo_succ, List.flatMap_append]
    congr 1
    unfold tellOne
    split
    · simp
    · rename_i h
      simp [hc _ (by simpa using h)]
theorem raw_len {c : ConfP} {m : SM} (h : SMOk c m) : (m.raw c).length ≤ 270000 := by
  unfold SM.raw
  rw [List.length_append]
  have h1 : ∀ l : List StackP, (∀ s ∈ l, s.bins.length ≤ 1024) → (l.flatMap (·.bins)).length ≤ l.length * 1024 := by
    intro l
    induction l with
    | nil => simp
    | cons s l ih =>
      intro hs
      rw [List.flatMap_cons, List.length_append, List.length_cons, Nat.succ_mul]
      have := ih fun s hs' => hs s (by simp [hs'])
      have := hs s (by simp)
      omega
  have h2 := h1 (m.told c) fun s hs => by rw [(told_open s hs).2]; exact h.short _
  have h3 := told_len (m := m) h.may
  have h4 := List.length_filter_le (fun b => b != 0) m.ld
  have h5 := h.n8
  have h6 : (m.told c).length * 1024 ≤ 256 * 1024 := Nat.mul_le_mul_right _ h3
  omega

set_option maxHeartbeats 4000000 in
theorem k_bins {c : ConfP} {p : Nat} {m : SM} {w : World} (h : Has w (rSTK c p m)) : Calls Tryz.prog 35 #[.pointer (some ⟨p, 0, none⟩)] w fun e w' =>
    ∃ ad n cap, e = .returned (.slice ad n cap) ∧ Turn (rOw 3 elInt (.slice ad n cap) (m.bins c)) w w' none' := by
  obtain ⟨s, rfl, h2, h3, h4, h5⟩ := Has.stk h
  have hK : Know w w none' [] (rSt c s) := Know.start (L := rSt c s) w h5
  have hlen : s.rows.length = s.A := by have := congrArg List.length h3.rows; rw [List.length_map, gridL_len] at this; exact this
  have hA : areaOf c = s.A := by
    have h1 := (area_eq h3.may).1
    have h2 := h3.A
    rw [h1] at h2
    exact Int.ofNat.inj h2
  have hA256 : s.A ≤ 256 := by rw [← hA]; exact (area_eq h3.may).2
  have hall : (s.rows.map (·.l)).flatten = (m.told c).flatMap (·.bins) := by
    rw [h3.rows]
    unfold SM.told
    rw [hA]
    exact flat_told h4.closed s.A
  have hrsh : ∀ r ∈ s.rows, r.l.length ≤ 1024 := fun r hr => by
    obtain ⟨k, hk⟩ := List.mem_iff_getElem?.1 hr
    have hkA : k < s.A := by rw [← hlen]; exact (List.getElem?_eq_some_iff.1 hk).1
    have := gridL_at (f := m.f) (w := c.w) hkA
    rw [← h3.rows, List.getElem?_map, hk] at this
    injection this with this
    have e : r.l = m.f (cellAt c.w k) := this
    rw [e]; exact h4.short _
  have hraw := raw_len h4
  have HALL := Lib.hid hall
  have HSH := Lib.hid hrsh
  have HL := Lib.hid hlen
  have HLD := Lib.hid h2
  have hln : s.ln = s.loads.length := (StAt.has h5).loads.n
  have hl8 : s.loads.length ≤ 8 := h3.robots
  have HRAW := Lib.hid hraw
  clear h hall hrsh hlen hA h2 h3 h4 hraw
  simp only [rSt, StV.lv] at hK
  replace hK := hK.nil 3 elInt
  go_enter Tryz.func35, Tryz.ntmps35
  go_wp2_with (first
    | go_big_skip
    | ((with_reducible refine wl_at (o := ⟨_, .load _ _, _, _, _, _⟩) ?_)
       first
         | refine wl_loadK hK rfl rfl rfl (scalT (by decide)) (h := ?_)
         | refine wl_loadSK hK rfl rfl rfl (aggT (by decide)) (h := ?_)
         | refine wl_loadA0 rfl rfl rfl (scalT (by decide)) (h := ?_)
         | refine wl_loadA rfl rfl rfl (scalT (by decide)) (h := ?_)
         | refine wl_loadSA rfl rfl rfl (aggT (by decide)) (h := ?_))
    | (with_reducible refine atEnd_mk (by kernel_rfl) ?_))
  go_loopg [15, 3, 5] s.A (fun k i v3 _ wr => ∃ (j : Nat) (acc : List Int) (ad : Option Addr) (N cap : Nat), i = .int .i64 j ∧ k = s.A - j ∧ j ≤ s.A ∧ v3 = .slice ad N cap ∧ Hid (acc = ((s.rows.take j).map (·.l)).flatten) ∧ acc.length ≤ j * 1024 ∧
    Know w wr none' [rOw 3 elInt (.slice ad N cap) acc] [rMany (s.rows.map rowRes), rBlk s.p (stCells c s) 124, rOw 3 elInt (.slice s.lad s.ln s.lcap) s.loads, rOw 53 elSv (.slice s.rad s.A s.rcap) s.rows,
      rBlk s.b [.int .i64 c.w, .int .i64 c.h, .slice s.ad s.A s.cap] 148, rOw 3 elInt (.slice s.ad s.A s.cap) (gridL s.A c.w (kind2 c (homes c)))])
  case atStart => exact ⟨0, [], none, 0, 0, rfl, by omega, Nat.zero_le _, rfl, rfl, by simp, hK⟩
  case round =>
    obtain ⟨j, acc, ad, N, cap, rfl, rfl, hj, rfl, hacc, hal, hK⟩ := hrel
    by_cases hlt : j < s.A
    · obtain ⟨row, hr⟩ : ∃ row, s.rows[j]? = some row := ⟨_, List.getElem?_eq_getElem (by rw [HL.out]; exact hlt)⟩
      have HR := Lib.hid hr
      have hrd := (row_has (c := c) (s := s) (fun r hr => hK.has hr) (List.mem_of_getElem? hr)).rd
      have hsh := HSH.out row (List.mem_of_getElem? hr)
      have hj1 : j * 1024 ≤ 255 * 1024 := Nat.mul_le_mul_right _ (by omega)
      have HT := Lib.hid (show acc ++ row.l = ((s.rows.take (j + 1)).map (·.l)).flatten by rw [List.take_add_one, hr, hacc.out]; simp)
      clear hr
      go_wp2_with (first
        | ((with_reducible refine wl_at (o := ⟨some 17, _, _, _, _, _⟩) ?_)
           go_must (refine wl_ixK hK rfl rfl rfl rfl rowTy.und rowTy.size (h := ?_); intro b17 k17 hat17))
        | ((with_reducible refine wl_at (o := ⟨some 21, _, _, _, _, _⟩) ?_)
           go_must (refine wl_appK (xs := acc) (ys := row.l) hK intTy rfl rfl rfl rfl hrd (by unfold maxLen; omega) (by omega) (h := ?_); clear hK; intro ad2 N2 cap2 w21 hN2 hK; have HN2 := Lib.hid hN2; clear hN2; simp only [List.set_cons_zero, List.set_cons_succ] at hK))
        | go_big_skip
        | ((with_reducible refine wl_at (o := ⟨_, .load _ _, _, _, _, _⟩) ?_)
           first
             | refine wl_loadK hK rfl rfl rfl (scalT (by decide)) (h := ?_)
             | refine wl_loadSK hK rfl rfl rfl (aggT (by decide)) (h := ?_)
             | refine wl_loadA0 rfl rfl rfl (scalT (by decide)) (h := ?_)
             | refine wl_loadA rfl rfl rfl (scalT (by decide)) (h := ?_)
             | refine wl_loadSA rfl rfl rfl (aggT (by decide)) (h := ?_))
        | (with_reducible refine atEnd_mk (by kernel_rfl) ?_))
      go_roundg (s.A - (j + 1))
      case measure => omega
      case rel => exact ⟨j + 1, acc ++ row.l, ad2, N2, cap2, by go_num, rfl, by omega, rfl, HT, by rw [List.length_append, Nat.succ_mul]; omega, hK⟩
    · obtain rfl : j = s.A := by omega
      have hacc2 : Hid (acc = (m.told c).flatMap (·.bins)) := by
        show _ = _
        rw [hacc.out, ← HALL.out, List.take_of_length_le (by rw [HL.out]; exact Nat.le_refl _)]
      have hb1 : acc.length ≤ 262144 := by
        have : s.A * 1024 ≤ 256 * 1024 := Nat.mul_le_mul_right _ hA256
        omega
      clear hacc hal hlt
      go_wp2_with (first
        | go_big_skip
        | ((with_reducible refine wl_at (o := ⟨_, .load _ _, _, _, _, _⟩) ?_)
           first
             | refine wl_loadK hK rfl rfl rfl (scalT (by decide)) (h := ?_)
             | refine wl_loadSK hK rfl rfl rfl (aggT (by decide)) (h := ?_)
             | refine wl_loadA0 rfl rfl rfl (scalT (by decide)) (h := ?_)
             | refine wl_loadA rfl rfl rfl (scalT (by decide)) (h := ?_)
             | refine wl_loadSA rfl rfl rfl (aggT (by decide)) (h := ?_))
        | (with_reducible refine atEnd_mk (by kernel_rfl) ?_))
      go_loopg [28, 3, 7] s.loads.length (fun k i v3 _ wr => ∃ (j : Nat) (ac : List Int) (ad : Option Addr) (N cap : Nat), i = .int .i64 j ∧ k = s.loads.length - j ∧ j ≤ s.loads.length ∧ v3 = .slice ad N cap ∧ Hid (ac = acc ++ (s.loads.take j).filter fun b => b != 0) ∧ ac.length ≤ acc.length + j ∧
        Know w wr none' [rOw 3 elInt (.slice ad N cap) ac] [rMany (s.rows.map rowRes), rBlk s.p (stCells c s) 124, rOw 3 elInt (.slice s.lad s.ln s.lcap) s.loads, rOw 53 elSv (.slice s.rad s.A s.rcap) s.rows,
          rBlk s.b [.int .i64 c.w, .int .i64 c.h, .slice s.ad s.A s.cap] 148, rOw 3 elInt (.slice s.ad s.A s.cap) (gridL s.A c.w (kind2 c (homes c)))])
      case atStart => exact ⟨0, acc, ad, N, cap, rfl, by omega, Nat.zero_le _, rfl, (by show _ = _; simp), by omega, hK⟩
      case round =>
        clear hK ad N cap
        obtain ⟨j, ac, ad, N, cap, rfl, rfl, hj, rfl, hac, hal, hK⟩ := hrel
        by_cases hlt : j < s.loads.length
        · obtain ⟨v, hv⟩ : ∃ v, s.loads[j]? = some v := ⟨_, List.getElem?_eq_getElem hlt⟩
          have HV := Lib.hid hv
          have hjl : j < s.ln := by omega
          by_cases hv0 : v = 0
          · have HT := Lib.hid (show ac = acc ++ (s.loads.take (j + 1)).filter (fun b => b != 0) by rw [hac.out, List.take_add_one, hv, List.filter_append]; simp [hv0])
            have e1 : (v != 0) = false := by simp [hv0]
            subst hv0
            clear hv
            go_wp2_with (first
              | ((with_reducible refine wl_at (o := ⟨some 30, _, _, _, _, _⟩) ?_)
                 go_must (refine wl_ixK hK rfl rfl rfl rfl intTy.und intTy.size (h := ?_); intro b30 k30 hat30))
              | go_big_skip
              | ((with_reducible refine wl_at (o := ⟨_, .load _ _, _, _, _, _⟩) ?_)
                 first
                   | refine wl_loadK hK rfl rfl rfl (scalT (by decide)) (h := ?_)
                   | refine wl_loadSK hK rfl rfl rfl (aggT (by decide)) (h := ?_)
                   | refine wl_loadA0 rfl rfl rfl (scalT (by decide)) (h := ?_)
                   | refine wl_loadA rfl rfl rfl (scalT (by decide)) (h := ?_)
                   | refine wl_loadSA rfl rfl rfl (aggT (by decide)) (h := ?_))
              | (with_reducible refine atEnd_mk (by kernel_rfl) ?_))
            go_roundg (s.loads.length - (j + 1))
            case measure => omega
            case rel => exact ⟨j + 1, ac, ad, N, cap, by go_num, rfl, by omega, rfl, HT, by omega, hK⟩
          · have HT := Lib.hid (show ac ++ [v] = acc ++ (s.loads.take (j + 1)).filter (fun b => b != 0) by rw [hac.out, List.take_add_one, hv, List.filter_append]; simp [hv0])
            have e1 : (v != 0) = true := bne_iff_ne.2 hv0
            have e2 : decide (v = 0) = false := decide_eq_false hv0
            clear hv hv0
            go_wp2_with (first
              | ((with_reducible refine wl_at (o := ⟨some 30, _, _, _, _, _⟩) ?_)
                 go_must (refine wl_ixK hK rfl rfl rfl rfl intTy.und intTy.size (h := ?_); intro b30 k30 hat30))
              | ((with_reducible refine wl_at (o := ⟨some 36, _, _, _, _, _⟩) ?_); go_must (refine wl_buildK 3 elInt [v] hK rfl rfl (fun W => by kernel_rfl) rfl (by decide) ?_; clear hK; intro adb w36 hK))
              | ((with_reducible refine wl_at (o := ⟨some 37, _, _, _, _, _⟩) ?_)
                 go_must (refine wl_appK (xs := ac) (ys := [v]) hK intTy rfl rfl rfl rfl hK.rd (by simp; unfold maxLen; omega) (by simp; omega) (h := ?_); clear hK; intro ad2 N2 cap2 w37 hN2 hK; have HN2 := Lib.hid hN2; clear hN2; simp only [List.set_cons_zero, List.set_cons_succ] at hK))
              | go_big_skip
              | ((with_reducible refine wl_at (o := ⟨_, .load _ _, _, _, _, _⟩) ?_)
                 first
                   | refine wl_loadK hK rfl rfl rfl (scalT (by decide)) (h := ?_)
                   | refine wl_loadSK hK rfl rfl rfl (aggT (by decide)) (h := ?_)
                   | refine wl_loadA0 rfl rfl rfl (scalT (by decide)) (h := ?_)
                   | refine wl_loadA rfl rfl rfl (scalT (by decide)) (h := ?_)
                   | refine wl_loadSA rfl rfl rfl (aggT (by decide)) (h := ?_))
              | (with_reducible refine atEnd_mk (by kernel_rfl) ?_))
            go_roundg (s.loads.length - (j + 1))
            case measure => omega
            case rel => exact ⟨j + 1, ac ++ [v], ad2, N2, cap2, by go_num, rfl, by omega, rfl, HT, by rw [List.length_append]; simp only [List.length_cons, List.length_nil]; omega, hK.sub (.cons _ (List.Sublist.refl _))⟩
        · obtain rfl : j = s.loads.length := by omega
          have hraw2 := Lib.hid (show ac = m.raw c by
            rw [hac.out, hacc2.out, List.take_length, HLD.out]
            rfl)
          have hsz : ac.length ≤ 1048576 := by rw [hraw2.out]; have := HRAW.out; omega
          have hjl : ¬ s.loads.length < s.ln := by omega
          clear hac hal
          go_wp2_with (first
            | (go_at_call 64; go_must (refine (hK.callsJ (by repeat (first | exact Ix.head | apply Ix.tail)) (fun S hS => k_sort hsz hS)).mono ?_; clear hK; rintro e w' ⟨rfl, hK⟩; simp only [List.set_cons_zero, List.set_cons_succ] at hK))
            | go_big_skip
            | ((with_reducible refine wl_at (o := ⟨_, .load _ _, _, _, _, _⟩) ?_)
               first
                 | refine wl_loadK hK rfl rfl rfl (scalT (by decide)) (h := ?_)
                 | refine wl_loadSK hK rfl rfl rfl (aggT (by decide)) (h := ?_)
                 | refine wl_loadA0 rfl rfl rfl (scalT (by decide)) (h := ?_)
                 | refine wl_loadA rfl rfl rfl (scalT (by decide)) (h := ?_)
                 | refine wl_loadSA rfl rfl rfl (aggT (by decide)) (h := ?_))
            | (with_reducible refine atEnd_mk (by kernel_rfl) ?_))
          go_ret
          refine ⟨ad, N, cap, rfl, ?_⟩
          rw [hraw2.out] at hK
          exact hK.turn
end Go.Proofs.YtngeeilkpnihmaaGreatDoor
