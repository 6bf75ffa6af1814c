/- Chapter 8's own answer: Find. -/
import Derived.Test.YtcklkojggpfbnaaDoorR8cQ
set_option linter.all false
namespace Go.Proofs.YtcklkojggpfbnaaDoor
open Go Go.Sk Go.RowKit
set_option maxRecDepth 100000

theorem find_first {l : List StackP} {i k : Nat} {s : StackP} {b : Int} (hi : l[i]? = some s) (hk : s.bins[k]? = some b) (hb : ∀ (j : Nat) (u : StackP), j < i → l[j]? = some u → b ∉ u.bins) (hb2 : ∀ j, j < k → s.bins[j]? ≠ some b) :
    findIn l b = some (s.at_, (s.bins.length : Int) - 1 - k) := by
  obtain ⟨hl, he⟩ := List.getElem?_eq_some_iff.1 hi
  have hcut : l = l.take i ++ s :: l.drop (i + 1) := by
    rw [← he, ← List.drop_eq_getElem_cons hl, List.take_append_drop]
  rw [hcut, findIn_append]
  · show (if b ∈ s.bins then _ else _) = _
    rw [if_pos (List.mem_of_getElem? hk), idx_first' hb2 hk]
  · intro u hu hbu
    obtain ⟨j, hj⟩ := List.mem_iff_getElem?.1 hu
    have hji : j < i := by have := (List.getElem?_eq_some_iff.1 hj).1; rw [List.length_take] at this; omega
    rw [List.getElem?_take, if_pos hji] at hj
    exact hb j u hji hj hbu

set_option maxHeartbeats 4000000 in
theorem rf_find {c : ConfV} {p : Nat} {m : SM} {b : Int} {w : World} (h : Has w (rREF c p m)) : Calls Tryd.prog 26 #[.pointer (some ⟨p, 0, none⟩), .int .i64 b] w (Ret (findV (m.find c.p b)) w) := by
  obtain ⟨v, rfl, hv, hg⟩ := Has.ref h
  have hK : Know w w none' [] (rRf c v) := Know.start (L := rRf c v) w hg
  have hlen := hv.len
  obtain ⟨r, hr⟩ : ∃ r, r = m.find c.p b := ⟨_, rfl⟩
  have hf : r = findIn (v.cells.l.map StackV.p) b := by rw [hr, hv.cells]; rfl
  have HF : Hid (∀ (i k : Nat) (s : StackV), v.cells.l[i]? = some s → s.bins.l[k]? = some b → (∀ (j : Nat) (u : StackV), j < i → v.cells.l[j]? = some u → b ∉ u.bins.l) → (∀ j, j < k → s.bins.l[j]? ≠ some b) → findV r = .tuple #[.agg s.at_.cells.toArray, .int .i64 ((s.bins.l.length : Int) - 1 - k), .bool true]) := fun i k s h1 h2 h3 h4 => by
    rw [hf, find_first (s := s.p) (i := i) (k := k) (by rw [List.getElem?_map, h1]; rfl) h2 (fun j u hj hu => by
      rw [List.getElem?_map] at hu
      obtain ⟨u', hu', rfl⟩ := Option.map_eq_some_iff.1 hu
      exact h3 j u' hj hu') h4]
    rfl
  have HN : Hid ((∀ (j : Nat) (u : StackV), v.cells.l[j]? = some u → b ∉ u.bins.l) → findV r = .tuple #[.agg (Cell.mk 0 0).cells.toArray, .int .i64 0, .bool false]) := fun h3 => by
    rw [hf, findIn_none]
    · rfl
    · intro s hs
      obtain ⟨u, hu, rfl⟩ := List.mem_map.1 hs
      obtain ⟨j, hj⟩ := List.mem_iff_getElem?.1 hu
      exact h3 j u hj
  have hsh := Lib.hid (show ∀ u ∈ v.cells.l, u.bins.l.length ≤ 1048576 from fun u hu => told_short hv.ok u.p (by rw [← hv.cells]; exact List.mem_map_of_mem hu))
  rw [← hr]
  clear hr hf h hg hv
  simp only [rRf] at hK
  go_enter Tryd.func26, Tryd.ntmps26
  go_wp2_with (first
    | ((with_reducible refine wl_at (o := ⟨some 4, .alloc _, _, _, _, _⟩) ?_)
       go_must (refine wl_allocK (z := .agg ([.int .i64 0, .int .i64 0]).toArray) (zs := [.int .i64 0, .int .i64 0]) hK rfl rfl (by kernel_rfl) rfl ?_; clear hK; intro w4 b4 hK))
    | go_big_skip
    | ((with_reducible refine wl_at (o := ⟨_, .load _ _, _, _, _, _⟩) ?_)
       first
         | refine wl_loadK hK rfl rfl rfl (scalT (by decide)) (h := ?_)
         | refine wl_loadSK hK rfl rfl rfl (aggT (by decide)) (h := ?_)
         | refine wl_loadA0 rfl rfl rfl (scalT (by decide)) (h := ?_)
         | refine wl_loadA rfl rfl rfl (scalT (by decide)) (h := ?_)
         | refine wl_loadSA rfl rfl rfl (aggT (by decide)) (h := ?_))
    | (with_reducible refine atEnd_mk (by kernel_rfl) ?_))
  go_loopg [5, 6, 7, 8, 9] v.cells.l.length (fun k v5 v6 i _ _ wr => ∃ n : Nat, i = .int .i64 n ∧ k = v.cells.l.length - n ∧ v5 = .int .i64 0 ∧ v6 = .bool false ∧ n ≤ v.cells.l.length ∧ Hid (∀ (j : Nat) (u : StackV), j < n → v.cells.l[j]? = some u → b ∉ u.bins.l) ∧
    Know w wr none' [rBlk b4 [.int .i64 0, .int .i64 0] 39] [rMany (v.cells.l.map rdRes), rBlk v.p (rfCells c v) 84, rOw 42 elStack v.cells.val v.cells.l, rOw 3 elInt v.loads.val v.loads.l])
  case atStart => exact ⟨0, rfl, by omega, rfl, rfl, Nat.zero_le _, fun j u h => by omega, hK⟩
  case round =>
    obtain ⟨n, rfl, rfl, rfl, rfl, hn, hP, hK⟩ := hrel
    by_cases hlt : n < v.cells.l.length
    · obtain ⟨u, hu0⟩ : ∃ u, v.cells.l[n]? = some u := ⟨_, List.getElem?_eq_getElem hlt⟩
      have HU := Lib.hid hu0
      have HM := Lib.hid (List.mem_of_getElem? hu0)
      have hub := hsh.out u HM.out
      clear hu0
      go_wp2_with (first
        | ((with_reducible refine wl_at (o := ⟨some 24, _, _, _, _, _⟩) ?_)
           go_must (refine wl_ixK hK rfl rfl rfl rfl stackTy.und stackTy.size (h := ?_); intro b24 k24 hat24))
        | go_big_skip
        | ((with_reducible refine wl_at (o := ⟨_, .load _ _, _, _, _, _⟩) ?_)
           first
             | refine wl_loadK hK rfl rfl rfl (scalT (by decide)) (h := ?_)
             | refine wl_loadSK hK rfl rfl rfl (aggT (by decide)) (h := ?_)
             | refine wl_loadA0 rfl rfl rfl (scalT (by decide)) (h := ?_)
             | refine wl_loadA rfl rfl rfl (scalT (by decide)) (h := ?_)
             | refine wl_loadSA rfl rfl rfl (aggT (by decide)) (h := ?_))
        | (with_reducible refine atEnd_mk (by kernel_rfl) ?_))
      go_loopg [5, 6, 9] u.bins.l.length (fun k v5 v6 i wr => ∃ q : Nat, i = .int .i64 q ∧ k = u.bins.l.length - q ∧ v5 = .int .i64 0 ∧ v6 = .bool false ∧ q ≤ u.bins.l.length ∧ Hid (∀ j, j < q → u.bins.l[j]? ≠ some b) ∧
        Know w wr none' [rBlk b4 [.int .i64 0, .int .i64 0] 39] [rMany (v.cells.l.map rdRes), rBlk v.p (rfCells c v) 84, rOw 42 elStack v.cells.val v.cells.l, rOw 3 elInt v.loads.val v.loads.l])
      case atStart => exact ⟨0, rfl, by omega, rfl, rfl, Nat.zero_le _, fun j h => by omega, hK⟩
      case round =>
        obtain ⟨q, rfl, rfl, rfl, rfl, hq, hP2, hK⟩ := hrel
        by_cases hql : q < u.bins.l.length
        · obtain ⟨x, hx⟩ : ∃ x, u.bins.l[q]? = some x := ⟨_, List.getElem?_eq_getElem hql⟩
          have HX := Lib.hid hx
          have hrd := (rMany_has (hK.lent (r := rMany (v.cells.l.map rdRes))) (rdRes u) (List.mem_map_of_mem HM.out)).rd
          clear hx
          by_cases hxb : x = b
          · have e1 : (x == b) = true := beq_iff_eq.2 hxb
            have HXB := Lib.hid hxb
            have i1 : (u.bins.l.length : Int) - 1 - (q : Int) = ((u.bins.l.length - 1 - q : Nat) : Int) := by omega
            obtain ⟨z, hz⟩ : ∃ z : Nat, u.bins.l.length = z + 1 := ⟨u.bins.l.length - 1, by omega⟩
            have i2 : ((u.bins.l.length : Nat) : Int) - 1 = (z : Int) := by omega
            obtain ⟨y, hy⟩ : ∃ y : Nat, z = y + q := ⟨z - q, by omega⟩
            have i3 : (z : Int) - (q : Int) = (y : Int) := by omega
            have hzb : z ≤ 1048576 := by omega
            have hyb : y ≤ 1048576 := by omega
            have HY := Lib.hid (show (u.bins.l.length : Int) - 1 - (q : Int) = (y : Int) by omega)
            clear hxb i1 hz hy
            go_wp2_with (first
              | ((with_reducible refine wl_at (o := ⟨some 35, _, _, _, _, _⟩) ?_); go_must (refine wl_ix rfl rfl rfl rfl intTy.und intTy.size hrd HX.out ?_; intro b35 k35 hat35 hbk35))
              | ((with_reducible refine wl_at (o := ⟨some 44, _, _, _, _, _⟩) ?_)
                 go_must (refine wl_ixK hK rfl rfl rfl rfl stackTy.und stackTy.size (h := ?_); intro b44 k44 hat44))
              | ((with_reducible refine wl_at (o := ⟨some 46, _, _, _, _, _⟩) ?_)
                 go_must (refine wl_loadP0 (Cell.cells (u.at_)) rfl rfl rfl (aggT (by decide)) (h := ?_)))
              | ((with_reducible refine wl_at (o := ⟨none, .store 39 _ _, _, _, _, _⟩) ?_)
                 go_must (refine wl_storeWK (vs := Cell.cells u.at_) hK rfl rfl rfl rfl (aggS (by decide)) (elCell.one u.at_) (h := ?_); clear hK; intro w' hK; simp only [List.set_cons_zero, List.set_cons_succ] at hK))
              | go_big_skip
              | ((with_reducible refine wl_at (o := ⟨_, .load _ _, _, _, _, _⟩) ?_)
                 first
                   | refine wl_loadK hK rfl rfl rfl (scalT (by decide)) (h := ?_)
                   | refine wl_loadSK hK rfl rfl rfl (aggT (by decide)) (h := ?_)
                   | refine wl_loadA0 rfl rfl rfl (scalT (by decide)) (h := ?_)
                   | refine wl_loadA rfl rfl rfl (scalT (by decide)) (h := ?_)
                   | refine wl_loadSA rfl rfl rfl (aggT (by decide)) (h := ?_))
              | (with_reducible refine atEnd_mk (by kernel_rfl) ?_))
            have hb4 := (hK.blk (b := b4) (cs := Cell.cells u.at_) (T := 39)).at0
            refine bodyPost_ret (res_cellS_tmp2 rfl _ rfl (aggT (by decide)) rfl hb4) rfl ⟨?_, hK.mod⟩
            rw [HF.out n q u HU.out (by rw [HX.out, HXB.out]) hP.out hP2.out, HY.out]
            rfl
          · have e1 : (x == b) = false := beq_eq_false_iff_ne.2 hxb
            have e2 : decide (x = b) = false := decide_eq_false hxb
            have HXB := Lib.hid hxb
            clear hxb
            go_wp2_with (first
              | ((with_reducible refine wl_at (o := ⟨some 35, _, _, _, _, _⟩) ?_); go_must (refine wl_ix rfl rfl rfl rfl intTy.und intTy.size hrd HX.out ?_; intro b35 k35 hat35 hbk35))
              | go_big_skip
              | ((with_reducible refine wl_at (o := ⟨_, .load _ _, _, _, _, _⟩) ?_)
                 first
                   | refine wl_loadK hK rfl rfl rfl (scalT (by decide)) (h := ?_)
                   | refine wl_loadSK hK rfl rfl rfl (aggT (by decide)) (h := ?_)
                   | refine wl_loadA0 rfl rfl rfl (scalT (by decide)) (h := ?_)
                   | refine wl_loadA rfl rfl rfl (scalT (by decide)) (h := ?_)
                   | refine wl_loadSA rfl rfl rfl (aggT (by decide)) (h := ?_))
              | (with_reducible refine atEnd_mk (by kernel_rfl) ?_))
            go_roundg (u.bins.l.length - (q + 1))
            case measure => omega
            case rel =>
              refine ⟨q + 1, by go_num, rfl, rfl, rfl, by omega, fun k hk => ?_, hK⟩
              by_cases hkm : k = q
              · subst hkm; rw [HX.out]; intro h; injection h with h; exact HXB.out h
              · exact hP2.out k (by omega)
        · obtain rfl : q = u.bins.l.length := by omega
          go_wp2_with (first
            | go_big_skip
            | ((with_reducible refine wl_at (o := ⟨_, .load _ _, _, _, _, _⟩) ?_)
               first
                 | refine wl_loadK hK rfl rfl rfl (scalT (by decide)) (h := ?_)
                 | refine wl_loadSK hK rfl rfl rfl (aggT (by decide)) (h := ?_)
                 | refine wl_loadA0 rfl rfl rfl (scalT (by decide)) (h := ?_)
                 | refine wl_loadA rfl rfl rfl (scalT (by decide)) (h := ?_)
                 | refine wl_loadSA rfl rfl rfl (aggT (by decide)) (h := ?_))
            | (with_reducible refine atEnd_mk (by kernel_rfl) ?_))
          go_roundg (v.cells.l.length - (n + 1))
          case measure => omega
          case rel =>
            refine ⟨n + 1, by go_num, rfl, rfl, rfl, by omega, fun k r hk hr hb => ?_, hK⟩
            by_cases hkn : k = n
            · subst hkn
              rw [HU.out] at hr
              injection hr with hr
              subst hr
              obtain ⟨i, hi⟩ := List.mem_iff_getElem?.1 hb
              exact hP2.out i (List.getElem?_eq_some_iff.1 hi).1 hi
            · exact hP.out k r (by omega) hr hb
    · obtain rfl : n = v.cells.l.length := by omega
      go_wp2_with (first
        | ((with_reducible refine wl_at (o := ⟨none, .store 39 _ _, _, _, _, _⟩) ?_)
           go_must (refine wl_storeWK (vs := Cell.cells ⟨0, 0⟩) hK rfl rfl rfl rfl (aggS (by decide)) (elCell.one _) (h := ?_); clear hK; intro w' hK; simp only [List.set_cons_zero, List.set_cons_succ] at hK))
        | go_big_skip
        | ((with_reducible refine wl_at (o := ⟨_, .load _ _, _, _, _, _⟩) ?_)
           first
             | refine wl_loadK hK rfl rfl rfl (scalT (by decide)) (h := ?_)
             | refine wl_loadSK hK rfl rfl rfl (aggT (by decide)) (h := ?_)
             | refine wl_loadA0 rfl rfl rfl (scalT (by decide)) (h := ?_)
             | refine wl_loadA rfl rfl rfl (scalT (by decide)) (h := ?_)
             | refine wl_loadSA rfl rfl rfl (aggT (by decide)) (h := ?_))
        | (with_reducible refine atEnd_mk (by kernel_rfl) ?_))
      have hb4 := (hK.blk (b := b4) (cs := Cell.cells ⟨0, 0⟩) (T := 39)).at0
      refine bodyPost_ret (res_cellS_tmp2 rfl _ rfl (aggT (by decide)) rfl hb4) rfl ⟨?_, hK.mod⟩
      rw [HN.out fun j u hu => hP.out j u (List.getElem?_eq_some_iff.1 hu).1 hu]
      rfl
end Go.Proofs.YtcklkojggpfbnaaDoor
