/- Chapter 8's own answer: Bins. -/
import Derived.Test.YtcklkojggpfbnaaDoorBn2Q
set_option linter.all false
namespace Go.Proofs.YtcklkojggpfbnaaDoor
open Go Go.Sk Go.RowKit
set_option maxRecDepth 100000

/-! an insertion, plain -/
/-- Up to place i all but place k stand in order; what stands at k is no more than what stands behind it. -/
structure InsP (l : List Int) (i k : Nat) : Prop where
  a : ∀ x y, x < y → y ≤ i → x ≠ k → y ≠ k → l.getD x 0 ≤ l.getD y 0
  b : ∀ y, k < y → y ≤ i → l.getD k 0 ≤ l.getD y 0
def SortedTo (l : List Int) (i : Nat) : Prop := ∀ x y, x < y → y < i → l.getD x 0 ≤ l.getD y 0
theorem getD_set {l : List Int} {i : Nat} {v : Int} (hi : i < l.length) (j : Nat) : (l.set i v).getD j 0 = if i = j then v else l.getD j 0 := by
  rw [List.getD_eq_getElem?_getD, List.getElem?_set]
  split
  · rename_i h
    subst h
    rfl
  · rw [List.getD_eq_getElem?_getD]
theorem ins_start {l : List Int} {i : Nat} (h : SortedTo l i) : InsP l i i := ⟨fun x y h1 h2 _ h4 => h x y h1 (by omega), fun y h1 h2 => by omega⟩
theorem ins_stop {l : List Int} {i k : Nat} (h : InsP l i k) (hki : k ≤ i) (he : k = 0 ∨ l.getD (k - 1) 0 ≤ l.getD k 0) : SortedTo l (i + 1) := by
  intro x y hxy hy
  by_cases hx : x = k
  · subst hx; exact h.b y hxy (by omega)
  · by_cases hyk : y = k
    · subst hyk
      rcases he with he | he
      · omega
      · by_cases hx1 : x = y - 1
        · rw [hx1]; exact he
        · exact Int.le_trans (h.a x (y - 1) (by omega) (by omega) hx (by omega)) he
    · exact h.a x y hxy (by omega) hx hyk
theorem ins_swap {l : List Int} {i k : Nat} (h : InsP l i (k + 1)) (hki : k + 1 ≤ i) (hil : i < l.length) (he : l.getD (k + 1) 0 < l.getD k 0) :
    InsP ((l.set (k + 1) (l.getD k 0)).set k (l.getD (k + 1) 0)) i k := by
  have g : ∀ j, ((l.set (k + 1) (l.getD k 0)).set k (l.getD (k + 1) 0)).getD j 0 = if k = j then l.getD (k + 1) 0 else if k + 1 = j then l.getD k 0 else l.getD j 0 := fun j => by
    rw [getD_set (by rw [List.length_set]; omega), getD_set (by omega)]
  refine ⟨fun x y h1 h2 h3 h4 => ?_, fun y h1 h2 => ?_⟩
  · have ex := g x
    have ey := g y
    rw [if_neg (fun e => h3 e.symm)] at ex
    rw [if_neg (fun e => h4 e.symm)] at ey
    rw [ex, ey]
    by_cases hx : k + 1 = x
    · rw [if_pos hx, if_neg (by omega)]
      exact h.a k y (by omega) h2 (by omega) (by omega)
    · rw [if_neg hx]
      by_cases hy : k + 1 = y
      · rw [if_pos hy]
        exact h.a x k (by omega) (by omega) (fun e => hx e.symm) (by omega)
      · rw [if_neg hy]
        exact h.a x y h1 h2 (fun e => hx e.symm) (fun e => hy e.symm)
  · have ex := g k
    have ey := g y
    rw [if_pos rfl] at ex
    rw [if_neg (by omega)] at ey
    rw [ex, ey]
    by_cases hy : k + 1 = y
    · rw [if_pos hy]; omega
    · rw [if_neg hy]
      exact h.b y (by omega) h2
theorem swap_perm {l : List Int} {i j : Nat} (hi : i < l.length) (hj : j < l.length) : ((l.set i (l.getD j 0)).set j (l.getD i 0)).Perm l := by
  have h := List.set_set_perm hi hj
  have e1 : l.getD j 0 = l[j] := by rw [List.getD_eq_getElem?_getD, List.getElem?_eq_getElem hj]; rfl
  have e2 : l.getD i 0 = l[i] := by rw [List.getD_eq_getElem?_getD, List.getElem?_eq_getElem hi]; rfl
  rw [e1, e2]
  exact h
theorem sorted_eq {l a : List Int} (hp : l.Perm a) (hs : SortedTo l l.length) : l = sortI a := by
  refine List.Perm.eq_of_pairwise (le := fun x y => x ≤ y) (fun x y _ _ h1 h2 => by omega) ?_ ?_ (hp.trans (List.mergeSort_perm a _).symm)
  · rw [List.pairwise_iff_getElem]
    intro i j hi hj hij
    have := hs i j hij hj
    rw [List.getD_eq_getElem?_getD, List.getD_eq_getElem?_getD, List.getElem?_eq_getElem hi, List.getElem?_eq_getElem hj] at this
    exact this
  · refine (List.pairwise_mergeSort (le := fun x y => decide (x ≤ y)) (fun x y z h1 h2 => ?_) (fun x y => ?_) a).imp fun h => of_decide_eq_true h
    · have := of_decide_eq_true h1
      have := of_decide_eq_true h2
      exact decide_eq_true (by omega)
    · rcases Int.le_total x y with h | h
      · simp [h]
      · simp [h]

set_option maxHeartbeats 8000000 in
theorem rf_bins {c : ConfV} {p : Nat} {m : SM} {w : World} (h : Has w (rREF c p m)) : Calls Tryd.prog 59 #[.pointer (some ⟨p, 0, none⟩)] w fun e w' =>
    ∃ ad n cap, e = .returned (.slice ad n cap) ∧ Turn (rOw 3 elInt (.slice ad n cap) (m.bins c.p)) w w' none' := by
  obtain ⟨v, rfl, hv, hg⟩ := Has.ref h
  have hK : Know w w none' [] (rRf c v) := Know.start (L := rRf c v) w hg
  have hlen := hv.len
  have hall : (v.cells.l.map fun s => s.bins.l).flatten = (m.told c.p).flatMap (·.bins) := by
    rw [← hv.cells, List.flatMap_def, List.map_map]
    rfl
  have hrsh : ∀ r ∈ v.cells.l, r.bins.l.length ≤ 1024 := fun r hr => by
    have hr2 : r.p ∈ m.told c.p := by rw [← hv.cells]; exact List.mem_map_of_mem hr
    have := (told_open _ hr2).2
    have e : r.bins.l = m.f r.p.at_ := this
    rw [e]; exact hv.ok.short _
  have HALL := Lib.hid hall
  have HSH := Lib.hid hrsh
  have HLD := Lib.hid hv.loads
  have hl8 : v.loads.l.length ≤ 8 := by rw [hv.loads]; exact hv.ok.n8
  have HRAW := Lib.hid (raw_len hv.ok)
  clear h hall hrsh hg hv
  simp only [rRf] at hK
  replace hK := hK.nil 3 elInt
  go_enter Tryd.func59, Tryd.ntmps59
  go_wp2_with (first
    | go_big_skip
    | ((with_reducible refine wl_at (o := ⟨_, .load _ _, _, _, _, _⟩) ?_)
       first
         | refine wl_loadK hK rfl rfl rfl (scalT (by decide)) (h := ?_)
         | refine wl_loadSK hK rfl rfl rfl (aggT (by decide)) (h := ?_)
         | refine wl_loadA0 rfl rfl rfl (scalT (by decide)) (h := ?_)
         | refine wl_loadA rfl rfl rfl (scalT (by decide)) (h := ?_)
         | refine wl_loadSA rfl rfl rfl (aggT (by decide)) (h := ?_))
    | (with_reducible refine atEnd_mk (by kernel_rfl) ?_))
  go_loopg [4, 3] v.cells.l.length (fun k i v3 wr => ∃ (j : Nat) (acc : List Int) (ad : Option Addr) (N cap : Nat), i = .int .i64 j ∧ k = v.cells.l.length - j ∧ j ≤ v.cells.l.length ∧ v3 = .slice ad N cap ∧ Hid (acc = ((v.cells.l.take j).map fun s => s.bins.l).flatten) ∧ acc.length ≤ j * 1024 ∧
    Know w wr none' [rOw 3 elInt (.slice ad N cap) acc] [rMany (v.cells.l.map rdRes), rBlk v.p (rfCells c v) 84, rOw 42 elStack v.cells.val v.cells.l, rOw 3 elInt v.loads.val v.loads.l])
  case atStart => exact ⟨0, [], none, 0, 0, rfl, by omega, Nat.zero_le _, rfl, rfl, by simp, hK⟩
  case round =>
    obtain ⟨j, acc, ad, N, cap, rfl, rfl, hj, rfl, hacc, hal, hK⟩ := hrel
    by_cases hlt : j < v.cells.l.length
    · obtain ⟨u, hr⟩ : ∃ u, v.cells.l[j]? = some u := ⟨_, List.getElem?_eq_getElem hlt⟩
      have HR := Lib.hid hr
      have hrd := (rMany_has (hK.lent (r := rMany (v.cells.l.map rdRes))) (rdRes u) (List.mem_map_of_mem (List.mem_of_getElem? hr))).rd
      have hsh := HSH.out u (List.mem_of_getElem? hr)
      have hj1 : j * 1024 ≤ 255 * 1024 := Nat.mul_le_mul_right _ (by omega)
      have HT := Lib.hid (show acc ++ u.bins.l = ((v.cells.l.take (j + 1)).map fun s => s.bins.l).flatten by rw [List.take_add_one, hr, hacc.out]; simp)
      clear hr
      go_wp2_with (first
        | ((with_reducible refine wl_at (o := ⟨some 24, _, _, _, _, _⟩) ?_)
           go_must (refine wl_ixK hK rfl rfl rfl rfl stackTy.und stackTy.size (h := ?_); intro b24 k24 hat24))
        | ((with_reducible refine wl_at (o := ⟨some 27, _, _, _, _, _⟩) ?_)
           go_must (refine wl_appK (xs := acc) (ys := u.bins.l) hK intTy rfl rfl rfl rfl hrd (by unfold maxLen; omega) (by omega) (h := ?_); clear hK; intro ad2 N2 cap2 w27 hN2 hK; have HN2 := Lib.hid hN2; clear hN2; simp only [List.set_cons_zero, List.set_cons_succ] at hK))
        | go_big_skip
        | ((with_reducible refine wl_at (o := ⟨_, .load _ _, _, _, _, _⟩) ?_)
           first
             | refine wl_loadK hK rfl rfl rfl (scalT (by decide)) (h := ?_)
             | refine wl_loadSK hK rfl rfl rfl (aggT (by decide)) (h := ?_)
             | refine wl_loadA0 rfl rfl rfl (scalT (by decide)) (h := ?_)
             | refine wl_loadA rfl rfl rfl (scalT (by decide)) (h := ?_)
             | refine wl_loadSA rfl rfl rfl (aggT (by decide)) (h := ?_))
        | (with_reducible refine atEnd_mk (by kernel_rfl) ?_))
      go_roundg (v.cells.l.length - (j + 1))
      case measure => omega
      case rel => exact ⟨j + 1, acc ++ u.bins.l, ad2, N2, cap2, by go_num, rfl, by omega, rfl, HT, by rw [List.length_append, Nat.succ_mul]; omega, hK⟩
    · obtain rfl : j = v.cells.l.length := by omega
      have hacc2 : Hid (acc = (m.told c.p).flatMap (·.bins)) := by
        show _ = _
        rw [hacc.out, ← HALL.out, List.take_length]
      have hb1 : acc.length ≤ 262144 := by
        have : v.cells.l.length * 1024 ≤ 256 * 1024 := Nat.mul_le_mul_right _ hlen
        omega
      clear hacc hal hlt
      go_wp2_with (first
        | go_big_skip
        | ((with_reducible refine wl_at (o := ⟨_, .load _ _, _, _, _, _⟩) ?_)
           first
             | refine wl_loadK hK rfl rfl rfl (scalT (by decide)) (h := ?_)
             | refine wl_loadSK hK rfl rfl rfl (aggT (by decide)) (h := ?_)
             | refine wl_loadA0 rfl rfl rfl (scalT (by decide)) (h := ?_)
             | refine wl_loadA rfl rfl rfl (scalT (by decide)) (h := ?_)
             | refine wl_loadSA rfl rfl rfl (aggT (by decide)) (h := ?_))
        | (with_reducible refine atEnd_mk (by kernel_rfl) ?_))
      go_loopg [5, 3] v.loads.l.length (fun k i v3 wr => ∃ (j : Nat) (ac : List Int) (ad : Option Addr) (N cap : Nat), i = .int .i64 j ∧ k = v.loads.l.length - j ∧ j ≤ v.loads.l.length ∧ v3 = .slice ad N cap ∧ Hid (ac = acc ++ (v.loads.l.take j).filter fun b => b != 0) ∧ ac.length ≤ acc.length + j ∧
        Know w wr none' [rOw 3 elInt (.slice ad N cap) ac] [rMany (v.cells.l.map rdRes), rBlk v.p (rfCells c v) 84, rOw 42 elStack v.cells.val v.cells.l, rOw 3 elInt v.loads.val v.loads.l])
      case atStart => exact ⟨0, acc, ad, N, cap, rfl, by omega, Nat.zero_le _, rfl, (by show _ = _; simp), by omega, hK⟩
      case round =>
        clear hK ad N cap
        obtain ⟨j, ac, ad, N, cap, rfl, rfl, hj, rfl, hac, hal, hK⟩ := hrel
        by_cases hlt : j < v.loads.l.length
        · obtain ⟨z, hv⟩ : ∃ z, v.loads.l[j]? = some z := ⟨_, List.getElem?_eq_getElem hlt⟩
          have HV := Lib.hid hv
          by_cases hv0 : z = 0
          · have HT := Lib.hid (show ac = acc ++ (v.loads.l.take (j + 1)).filter (fun b => b != 0) by rw [hac.out, List.take_add_one, hv, List.filter_append]; simp [hv0])
            subst hv0
            clear hv
            go_wp2_with (first
              | ((with_reducible refine wl_at (o := ⟨some 42, _, _, _, _, _⟩) ?_); go_must (refine wl_ixK (xs := v.loads.l) (u := (0 : Int)) hK rfl rfl rfl rfl intTy.und intTy.size (hu := HV) (h := ?_); intro b42 k42 hat42))
              | go_big_skip
              | ((with_reducible refine wl_at (o := ⟨_, .load _ _, _, _, _, _⟩) ?_)
                 first
                   | refine wl_loadK hK rfl rfl rfl (scalT (by decide)) (h := ?_)
                   | refine wl_loadSK hK rfl rfl rfl (aggT (by decide)) (h := ?_)
                   | refine wl_loadA0 rfl rfl rfl (scalT (by decide)) (h := ?_)
                   | refine wl_loadA rfl rfl rfl (scalT (by decide)) (h := ?_)
                   | refine wl_loadSA rfl rfl rfl (aggT (by decide)) (h := ?_))
              | (with_reducible refine atEnd_mk (by kernel_rfl) ?_))
            go_roundg (v.loads.l.length - (j + 1))
            case measure => omega
            case rel => exact ⟨j + 1, ac, ad, N, cap, by go_num, rfl, by omega, rfl, HT, by omega, hK⟩
          · have HT := Lib.hid (show ac ++ [z] = acc ++ (v.loads.l.take (j + 1)).filter (fun b => b != 0) by rw [hac.out, List.take_add_one, hv, List.filter_append]; simp [hv0])
            have e1 : (z != 0) = true := bne_iff_ne.2 hv0
            have e2 : decide (z = 0) = false := decide_eq_false hv0
            clear hv hv0
            go_wp2_with (first
              | ((with_reducible refine wl_at (o := ⟨some 42, _, _, _, _, _⟩) ?_); go_must (refine wl_ixK (xs := v.loads.l) (u := z) hK rfl rfl rfl rfl intTy.und intTy.size (hu := HV) (h := ?_); intro b42 k42 hat42))
              | ((with_reducible refine wl_at (o := ⟨some 51, _, _, _, _, _⟩) ?_); go_must (refine wl_ixK (xs := v.loads.l) (u := z) hK rfl rfl rfl rfl intTy.und intTy.size (hu := HV) (h := ?_); intro b51 k51 hat51))
              | ((with_reducible refine wl_at (o := ⟨some 53, _, _, _, _, _⟩) ?_); go_must (refine wl_buildK 3 elInt [z] hK rfl rfl (fun W => by kernel_rfl) rfl (by decide) ?_; clear hK; intro adb w53 hK))
              | ((with_reducible refine wl_at (o := ⟨some 54, _, _, _, _, _⟩) ?_)
                 go_must (refine wl_appK (xs := ac) (ys := [z]) hK intTy rfl rfl rfl rfl hK.rd (by simp; unfold maxLen; omega) (by simp; omega) (h := ?_); clear hK; intro ad2 N2 cap2 w54 hN2 hK; have HN2 := Lib.hid hN2; clear hN2; simp only [List.set_cons_zero, List.set_cons_succ] at hK))
              | go_big_skip
              | ((with_reducible refine wl_at (o := ⟨_, .load _ _, _, _, _, _⟩) ?_)
                 first
                   | refine wl_loadK hK rfl rfl rfl (scalT (by decide)) (h := ?_)
                   | refine wl_loadSK hK rfl rfl rfl (aggT (by decide)) (h := ?_)
                   | refine wl_loadA0 rfl rfl rfl (scalT (by decide)) (h := ?_)
                   | refine wl_loadA rfl rfl rfl (scalT (by decide)) (h := ?_)
                   | refine wl_loadSA rfl rfl rfl (aggT (by decide)) (h := ?_))
              | (with_reducible refine atEnd_mk (by kernel_rfl) ?_))
            go_roundg (v.loads.l.length - (j + 1))
            case measure => omega
            case rel => exact ⟨j + 1, ac ++ [z], ad2, N2, cap2, by go_num, rfl, by omega, rfl, HT, by rw [List.length_append]; simp only [List.length_cons, List.length_nil]; omega, hK.sub (.cons _ (List.Sublist.refl _))⟩
        · obtain rfl : j = v.loads.l.length := by omega
          have hraw2 := Lib.hid (show ac = m.raw c.p by
            rw [hac.out, hacc2.out, List.take_length, HLD.out]
            rfl)
          have hsz : ac.length ≤ 270008 := by omega
          have hN : N = ac.length := hK.rd.n
          have hNac := Lib.hid hN
          have hNsz : N ≤ 270008 := by omega
          clear hac hal hlt hN
          go_wp2_with (first
            | go_big_skip
            | ((with_reducible refine wl_at (o := ⟨_, .load _ _, _, _, _, _⟩) ?_)
               first
                 | refine wl_loadK hK rfl rfl rfl (scalT (by decide)) (h := ?_)
                 | refine wl_loadSK hK rfl rfl rfl (aggT (by decide)) (h := ?_)
                 | refine wl_loadA0 rfl rfl rfl (scalT (by decide)) (h := ?_)
                 | refine wl_loadA rfl rfl rfl (scalT (by decide)) (h := ?_)
                 | refine wl_loadSA rfl rfl rfl (aggT (by decide)) (h := ?_))
            | (with_reducible refine atEnd_mk (by kernel_rfl) ?_))
          go_loopg [6, 7, 8] N (fun k i _ _ wr => ∃ (j : Nat) (l : List Int), i = .int .i64 j ∧ k = N + 1 - j ∧ 1 ≤ j ∧ j ≤ N + 1 ∧ Hid (l.Perm ac) ∧ Hid (SortedTo l j) ∧
            Know w wr none' [rOw 3 elInt (.slice ad N cap) l] [rMany (v.cells.l.map rdRes), rBlk v.p (rfCells c v) 84, rOw 42 elStack v.cells.val v.cells.l, rOw 3 elInt v.loads.val v.loads.l])
          case atStart => exact ⟨1, ac, rfl, by omega, by omega, by omega, List.Perm.refl _, fun x y h1 h2 => by omega, hK⟩
          case round =>
            clear hK
            obtain ⟨j, l, rfl, rfl, hj1, hj2, hp, hs, hK⟩ := hrel
            have hln : l.length = N := by rw [hp.out.length_eq, ← hNac.out]
            by_cases hlt : j < N
            · have HLN := Lib.hid hln
              have hj270 : j ≤ 270008 := by omega
              clear hln
              go_wp2_with (first
                | go_big_skip
                | ((with_reducible refine wl_at (o := ⟨_, .load _ _, _, _, _, _⟩) ?_)
                   first
                     | refine wl_loadK hK rfl rfl rfl (scalT (by decide)) (h := ?_)
                     | refine wl_loadSK hK rfl rfl rfl (aggT (by decide)) (h := ?_)
                     | refine wl_loadA0 rfl rfl rfl (scalT (by decide)) (h := ?_)
                     | refine wl_loadA rfl rfl rfl (scalT (by decide)) (h := ?_)
                     | refine wl_loadSA rfl rfl rfl (aggT (by decide)) (h := ?_))
                | (with_reducible refine atEnd_mk (by kernel_rfl) ?_))
              go_loopg [7, 8] (j + 1) (fun k i _ wr => ∃ (q : Nat) (l : List Int), i = .int .i64 q ∧ k = q + 1 ∧ q ≤ j ∧ Hid (l.Perm ac) ∧ Hid (InsP l j q) ∧
                Know w wr none' [rOw 3 elInt (.slice ad N cap) l] [rMany (v.cells.l.map rdRes), rBlk v.p (rfCells c v) 84, rOw 42 elStack v.cells.val v.cells.l, rOw 3 elInt v.loads.val v.loads.l])
              case atStart => exact ⟨j, l, rfl, rfl, Nat.le_refl _, hp, ins_start hs.out, hK⟩
              case round =>
                clear hK hp hs HLN l
                obtain ⟨q, l, rfl, rfl, hq, hp, hs, hK⟩ := hrel
                have hln : l.length = N := by rw [hp.out.length_eq, ← hNac.out]
                have HLN := Lib.hid hln
                rcases q with _ | q
                · clear hln
                  have c0 : decide ((0 : Int) < ((0 : Nat) : Int)) = false := by decide
                  go_wp2_with (first
                    | ((with_reducible refine wp_region_textK (id := 15) hK (by kernel_rfl) (by kernel_rfl) ?_); clear hK; intro w' hK)
                    | go_big_skip
                    | go_big_skip
                    | ((with_reducible refine wl_at (o := ⟨_, .load _ _, _, _, _, _⟩) ?_)
                       first
                         | refine wl_loadK hK rfl rfl rfl (scalT (by decide)) (h := ?_)
                         | refine wl_loadSK hK rfl rfl rfl (aggT (by decide)) (h := ?_)
                         | refine wl_loadA0 rfl rfl rfl (scalT (by decide)) (h := ?_)
                         | refine wl_loadA rfl rfl rfl (scalT (by decide)) (h := ?_)
                         | refine wl_loadSA rfl rfl rfl (aggT (by decide)) (h := ?_))
                    | (with_reducible refine atEnd_mk (by kernel_rfl) ?_))
                  go_roundg (N + 1 - (j + 1))
                  case measure => omega
                  case rel => exact ⟨j + 1, l, by go_num, rfl, by omega, by omega, hp, ins_stop hs.out (Nat.zero_le _) (.inl rfl), hK⟩
                · obtain ⟨x, hx⟩ : ∃ x, l[q + 1]? = some x := ⟨_, List.getElem?_eq_getElem (by omega)⟩
                  obtain ⟨y, hy⟩ : ∃ y, l[q]? = some y := ⟨_, List.getElem?_eq_getElem (by omega)⟩
                  have gx : l.getD (q + 1) 0 = x := by rw [List.getD_eq_getElem?_getD, hx]; rfl
                  have gy : l.getD q 0 = y := by rw [List.getD_eq_getElem?_getD, hy]; rfl
                  obtain ⟨q1, hq1⟩ : ∃ q1, q1 = q + 1 := ⟨_, rfl⟩
                  have i1 : (q1 : Int) - 1 = (q : Int) := by omega
                  have HX := Lib.hid (show l[q1]? = some x by rw [hq1]; exact hx)
                  have HY := Lib.hid hy
                  have c0 : decide ((0 : Int) < (q1 : Int)) = true := decide_eq_true (by omega)
                  have c0' : decide (0 < q1) = true := decide_eq_true (by omega)
                  have hq1N : q1 < N := by omega
                  have hqN : q < N := by omega
                  have hq1b : q1 ≤ 270008 := by omega
                  rw [← hq1]
                  have HQ1 := Lib.hid hq1
                  by_cases hxy : x < y
                  · have c1 : decide (x < y) = true := decide_eq_true hxy
                    have HSW := Lib.hid (ins_swap hs.out (by omega) (by omega) (by rw [gx, gy]; exact hxy))
                    have HPM := Lib.hid ((swap_perm (l := l) (i := q + 1) (j := q) (by omega) (by omega)).trans hp.out)
                    rw [gx, gy, ← hq1] at HSW HPM
                    have HY2 := Lib.hid (show (l.set q1 y)[q]? = some y by rw [List.getElem?_set, if_neg (by omega)]; exact hy)
                    have hlq1 : q1 < l.length := by omega
                    have hlq : q < (l.set q1 y).length := by rw [List.length_set]; omega
                    clear hln hx hy gx gy hxy hq1
                    go_wp2_with (first
                      | ((with_reducible refine wl_at (o := ⟨some 67, _, _, _, _, _⟩) ?_); go_must (refine wl_ixK (xs := l) (u := x) hK rfl rfl rfl rfl intTy.und intTy.size (hu := HX) (h := ?_); intro b67 k67 hat67))
                      | ((with_reducible refine wl_at (o := ⟨some 72, _, _, _, _, _⟩) ?_); go_must (refine wl_ixK (xs := l) (u := y) hK rfl rfl rfl rfl intTy.und intTy.size (hu := HY) (h := ?_); intro b72 k72 hat72))
                      | ((with_reducible refine wl_at (o := ⟨some 80, _, _, _, _, _⟩) ?_); go_must (refine wl_ixK (xs := l) (u := x) hK rfl rfl rfl rfl intTy.und intTy.size (hu := HX) (h := ?_); intro b80 k80 hat80))
                      | ((with_reducible refine wl_at (o := ⟨some 87, _, _, _, _, _⟩) ?_); go_must (refine wl_ixK (xs := l) (u := y) hK rfl rfl rfl rfl intTy.und intTy.size (hu := HY) (h := ?_); intro b87 k87 hat87))
                      | ((with_reducible refine wl_at (o := ⟨some 89, _, _, _, _, _⟩) ?_); go_must (refine wl_ixO (xs := l) (u := x) hK rfl rfl rfl rfl intTy.und intTy.size (hu := HX) (h := ?_); intro b89 k89 hat89 hsp89))
                      | ((with_reducible refine wl_at (o := ⟨some 94, _, _, _, _, _⟩) ?_); go_must (refine wl_ixO (xs := l.set q1 y) (u := y) hK rfl rfl rfl rfl intTy.und intTy.size (hu := HY2) (h := ?_); intro b94 k94 hat94 hsp94))
                      | ((with_reducible refine wl_at (o := ⟨none, .store 3 (.tmp 89) _, _, _, _, _⟩) ?_); go_must (refine wl_storeE y hK rfl rfl rfl rfl (sizT (by decide)) hsp89 (hlt := hlq1) (hv := .inr ⟨rfl, rfl⟩) (h := ?_); clear hK; intro w' hK; simp only [List.set_cons_zero, List.set_cons_succ] at hK))
                      | ((with_reducible refine wl_at (o := ⟨none, .store 3 (.tmp 94) _, _, _, _, _⟩) ?_); go_must (refine wl_storeE x hK rfl rfl rfl rfl (sizT (by decide)) hsp94 (hlt := hlq) (hv := .inr ⟨rfl, rfl⟩) (h := ?_); clear hK; intro w' hK; simp only [List.set_cons_zero, List.set_cons_succ] at hK))
                      | ((with_reducible refine wp_region_textK (id := 15) hK (by kernel_rfl) (by kernel_rfl) ?_); clear hK; intro w' hK)
                      | go_big_skip
                      | go_big_skip
                      | ((with_reducible refine wl_at (o := ⟨_, .load _ _, _, _, _, _⟩) ?_)
                         first
                           | refine wl_loadK hK rfl rfl rfl (scalT (by decide)) (h := ?_)
                           | refine wl_loadSK hK rfl rfl rfl (aggT (by decide)) (h := ?_)
                           | refine wl_loadA0 rfl rfl rfl (scalT (by decide)) (h := ?_)
                           | refine wl_loadA rfl rfl rfl (scalT (by decide)) (h := ?_)
                           | refine wl_loadSA rfl rfl rfl (aggT (by decide)) (h := ?_))
                      | (with_reducible refine atEnd_mk (by kernel_rfl) ?_))
                    go_roundg (q + 1)
                    case measure => have := HQ1.out; omega
                    case rel => exact ⟨q, (l.set q1 y).set q x, by go_num, rfl, by omega, HPM, HSW, hK⟩
                  · have c1 : decide (x < y) = false := decide_eq_false hxy
                    have HST := Lib.hid (ins_stop hs.out hq (.inr (by rw [Nat.add_sub_cancel, gx, gy]; omega)))
                    clear hln hx hy gx gy hxy hq1
                    go_wp2_with (first
                      | ((with_reducible refine wl_at (o := ⟨some 67, _, _, _, _, _⟩) ?_); go_must (refine wl_ixK (xs := l) (u := x) hK rfl rfl rfl rfl intTy.und intTy.size (hu := HX) (h := ?_); intro b67 k67 hat67))
                      | ((with_reducible refine wl_at (o := ⟨some 72, _, _, _, _, _⟩) ?_); go_must (refine wl_ixK (xs := l) (u := y) hK rfl rfl rfl rfl intTy.und intTy.size (hu := HY) (h := ?_); intro b72 k72 hat72))
                      | ((with_reducible refine wp_region_textK (id := 15) hK (by kernel_rfl) (by kernel_rfl) ?_); clear hK; intro w' hK)
                      | go_big_skip
                      | go_big_skip
                      | ((with_reducible refine wl_at (o := ⟨_, .load _ _, _, _, _, _⟩) ?_)
                         first
                           | refine wl_loadK hK rfl rfl rfl (scalT (by decide)) (h := ?_)
                           | refine wl_loadSK hK rfl rfl rfl (aggT (by decide)) (h := ?_)
                           | refine wl_loadA0 rfl rfl rfl (scalT (by decide)) (h := ?_)
                           | refine wl_loadA rfl rfl rfl (scalT (by decide)) (h := ?_)
                           | refine wl_loadSA rfl rfl rfl (aggT (by decide)) (h := ?_))
                      | (with_reducible refine atEnd_mk (by kernel_rfl) ?_))
                    go_roundg (N + 1 - (j + 1))
                    case measure => omega
                    case rel => exact ⟨j + 1, l, by go_num, rfl, by omega, by omega, hp, HST, hK⟩
            · have HSO := Lib.hid (show l = m.bins c.p by
                unfold SM.bins
                rw [← hraw2.out]
                exact sorted_eq hp.out (fun x y h1 h2 => hs.out x y h1 (by omega)))
              clear hln
              go_wp2_with (first
                | go_big_skip
                | ((with_reducible refine wl_at (o := ⟨_, .load _ _, _, _, _, _⟩) ?_)
                   first
                     | refine wl_loadK hK rfl rfl rfl (scalT (by decide)) (h := ?_)
                     | refine wl_loadSK hK rfl rfl rfl (aggT (by decide)) (h := ?_)
                     | refine wl_loadA0 rfl rfl rfl (scalT (by decide)) (h := ?_)
                     | refine wl_loadA rfl rfl rfl (scalT (by decide)) (h := ?_)
                     | refine wl_loadSA rfl rfl rfl (aggT (by decide)) (h := ?_))
                | (with_reducible refine atEnd_mk (by kernel_rfl) ?_))
              go_ret
              refine ⟨ad, N, cap, rfl, ?_⟩
              rw [HSO.out] at hK
              exact hK.turn
end Go.Proofs.YtcklkojggpfbnaaDoor
