/- Sorting what is one's own. -/
import Derived.Test.YtngeeilkpnihmaaGreatDoorSrtQ
import Derived.Test.YtngeeilkpnihmaaGreatDoorStB
import Derived.Test.YtngeeilkpnihmaaGreatDoorStC
import Derived.Test.YtngeeilkpnihmaaGreatDoorFlQ
import Derived.Sort.OwnSorted
set_option linter.all false
namespace Go.Proofs.YtngeeilkpnihmaaGreatDoor
open Go Go.Sk Go.RowKit
set_option maxRecDepth 100000

abbrev encI : Int → Value := Value.int .i64
theorem holds_int {w : World} {g : Nat} {cur : Array Value} {e : TypeId} {ss : List Int} (hb : w.heap[g]? = some (.cells cur e (0, 0))) (ht : cur.toList.take ss.length = ss.map encI) : Go.Sort.Holds encI w g 0 ss.toArray := by
  intro j hj
  have hj' : j < ss.length := by simpa using hj
  refine ⟨?_, by simp [World.frozen?, hb]⟩
  have h1 : (cur.toList.take ss.length)[j]? = (ss.map encI)[j]? := by rw [ht]
  rw [List.getElem?_take_of_lt hj'] at h1
  simp only [World.cell?, hb, Nat.zero_add]
  simp only [Option.isSome_none, Bool.false_eq_true, if_false]
  rw [← Array.getElem?_toList, h1]
  simp [hj']
theorem heap_sorted_int {w : World} {g n : Nat} {os : Array Obj} {cur : Array Value} {e : TypeId} {fr : Nat × Nat} (d : Array Int) (hb : w.heap[g]? = some (.cells cur e fr)) :
    (Go.Sort.grow (Go.Sort.putRow encI (Go.Sort.ahead w n) g 0 d) os).heap[g]? = some (.cells (Go.Sort.putCells encI 0 d cur) e fr) := by
  have hg : g < w.heap.size := (Array.getElem?_eq_some_iff.1 hb).1
  rw [Go.Sort.heap_grow_old _ _ (by simpa using hg)]
  simp [Go.Sort.putRow, Go.Sort.mapBlock, Go.Sort.ahead, Array.getElem?_modify, hb, Go.Sort.onCells]
theorem mod_sorted_int {w : World} {g n : Nat} {os : Array Obj} (d : Array Int) : Mod (only g) w (Go.Sort.grow (Go.Sort.putRow encI (Go.Sort.ahead w n) g 0 d) os) := by
  refine ⟨rfl, rfl, rfl, by simp, fun k hk hne => ?_⟩
  rw [Go.Sort.heap_grow_old _ _ (by simpa using hk)]
  have : g ≠ k := fun e => hne e.symm
  simp [Go.Sort.putRow, Go.Sort.mapBlock, Go.Sort.ahead, Array.getElem?_modify, this]
theorem take_put_int (cur : Array Value) (ts : List Int) (h : ts.length ≤ cur.size) : (Go.Sort.putCells encI 0 ts.toArray cur).toList.take ts.length = ts.map encI := by
  apply List.ext_getElem?
  intro j
  by_cases hj : j < ts.length
  · rw [List.getElem?_take_of_lt hj, Array.getElem?_toList]
    simp [Go.Sort.putCells, hj, show j < cur.size by omega]
  · rw [List.getElem?_take_eq_none (by omega), List.getElem?_eq_none (by simp; omega)]
theorem flat_int (l : List Int) : flat elInt.cells l = l.map encI := by
  unfold flat
  induction l with
  | nil => rfl
  | cons x l ih => rw [List.flatMap_cons, ih]; rfl
def sortI (l : List Int) : List Int := l.mergeSort fun x y => decide (x ≤ y)
theorem sortI_len (l : List Int) : (sortI l).length = l.length := by unfold sortI; simp

theorem len_zero {w : World} : Calls Tryz.prog 88 #[.int .u64 0] w fun e w' => e = .returned (.int .i64 0) ∧ w' = w :=
  calls_of_every_depth fun D => AnyS.bits_LenIn ({ Tryz.lays189 with } : Lays.n125 Tryz.prog Tryz.lays189_ren) D 0 w (by decide) (by decide)
set_option maxHeartbeats 1000000 in
theorem ins_zero {w : World} : Calls Tryz.prog 108 #[.slice none 0 0, .int .i64 0, .int .i64 0] w (Ret (.tuple #[]) w) := by
  have hK : Know w w none' [] [] := Know.start w (by simp)
  go_enter Tryz.func108, Tryz.ntmps108
  go_wp2_with (first
    | go_big_skip
    | ((with_reducible refine wl_at (o := ⟨_, .load _ _, _, _, _, _⟩) ?_)
       first
         | refine wl_loadK hK rfl rfl rfl (scalT (by decide)) (h := ?_)
         | refine wl_loadSK hK rfl rfl rfl (aggT (by decide)) (h := ?_)
         | refine wl_loadA0 rfl rfl rfl (scalT (by decide)) (h := ?_)
         | refine wl_loadA rfl rfl rfl (scalT (by decide)) (h := ?_)
         | refine wl_loadSA rfl rfl rfl (aggT (by decide)) (h := ?_))
    | (with_reducible refine atEnd_mk (by kernel_rfl) ?_))
  go_loopg [6] 1 (fun k i wr => i = .int .i64 1 ∧ Know w wr none' [] [])
  case atStart => exact ⟨rfl, hK⟩
  case round =>
    obtain ⟨rfl, hK⟩ := hrel
    go_wp2_with (first
      | go_big_skip
      | ((with_reducible refine wl_at (o := ⟨_, .load _ _, _, _, _, _⟩) ?_)
         first
           | refine wl_loadK hK rfl rfl rfl (scalT (by decide)) (h := ?_)
           | refine wl_loadSK hK rfl rfl rfl (aggT (by decide)) (h := ?_)
           | refine wl_loadA0 rfl rfl rfl (scalT (by decide)) (h := ?_)
           | refine wl_loadA rfl rfl rfl (scalT (by decide)) (h := ?_)
           | refine wl_loadSA rfl rfl rfl (aggT (by decide)) (h := ?_))
      | (with_reducible refine atEnd_mk (by kernel_rfl) ?_))
    first | (refine bodyPost_ret (results_none rfl _ _ _) rfl ?_) | (refine bodyPost_end (results_none rfl _ _ _) rfl ?_)
    exact ⟨rfl, hK.mod⟩
set_option maxHeartbeats 1000000 in
theorem pdq_zero {w : World} {n : Int} : Calls Tryz.prog 87 #[.slice none 0 0, .int .i64 0, .int .i64 0, .int .i64 n] w (Ret (.tuple #[]) w) := by
  have hK : Know w w none' [] [] := Know.start w (by simp)
  go_enter Tryz.func87, Tryz.ntmps87
  go_wp2_with (first
    | go_big_skip
    | ((with_reducible refine wl_at (o := ⟨_, .load _ _, _, _, _, _⟩) ?_)
       first
         | refine wl_loadK hK rfl rfl rfl (scalT (by decide)) (h := ?_)
         | refine wl_loadSK hK rfl rfl rfl (aggT (by decide)) (h := ?_)
         | refine wl_loadA0 rfl rfl rfl (scalT (by decide)) (h := ?_)
         | refine wl_loadA rfl rfl rfl (scalT (by decide)) (h := ?_)
         | refine wl_loadSA rfl rfl rfl (aggT (by decide)) (h := ?_))
    | (with_reducible refine atEnd_mk (by kernel_rfl) ?_))
  go_loopg [1, 2] 1 (fun k a b wr => a = .int .i64 0 ∧ b = .int .i64 0 ∧ Know w wr none' [] [])
  case atStart => exact ⟨rfl, rfl, hK⟩
  case round =>
    obtain ⟨rfl, rfl, hK⟩ := hrel
    go_wp2_with (first
      | (go_at_call 108; go_must (refine (hK.quiet (ins_zero)).mono ?_; clear hK; rintro e w' ⟨rfl, hK⟩))
      | go_big_skip
      | ((with_reducible refine wl_at (o := ⟨_, .load _ _, _, _, _, _⟩) ?_)
         first
           | refine wl_loadK hK rfl rfl rfl (scalT (by decide)) (h := ?_)
           | refine wl_loadSK hK rfl rfl rfl (aggT (by decide)) (h := ?_)
           | refine wl_loadA0 rfl rfl rfl (scalT (by decide)) (h := ?_)
           | refine wl_loadA rfl rfl rfl (scalT (by decide)) (h := ?_)
           | refine wl_loadSA rfl rfl rfl (aggT (by decide)) (h := ?_))
      | (with_reducible refine atEnd_mk (by kernel_rfl) ?_))
    first | (refine bodyPost_ret (results_none rfl _ _ _) rfl ?_) | (refine bodyPost_end (results_none rfl _ _ _) rfl ?_)
    exact ⟨rfl, hK.mod⟩
set_option maxHeartbeats 1000000 in
/-- Nothing is sorted. -/
theorem sort_nil {w : World} : Calls Tryz.prog 64 #[.slice none 0 0] w (Ret (.tuple #[]) w) := by
  have hK : Know w w none' [] [] := Know.start w (by simp)
  go_enter Tryz.func64, Tryz.ntmps64
  go_wp2_with (first
    | (go_at_call 88; go_must (refine (hK.quiet (len_zero.mono (fun e w' h => ⟨h.1, by rw [h.2]; exact Mod.refl _ _⟩))).mono ?_; clear hK; rintro e w' ⟨rfl, hK⟩))
    | (go_at_call 87; go_must (refine (hK.quiet (pdq_zero)).mono ?_; clear hK; rintro e w' ⟨rfl, hK⟩))
    | go_big_skip
    | ((with_reducible refine wl_at (o := ⟨_, .load _ _, _, _, _, _⟩) ?_)
       first
         | refine wl_loadK hK rfl rfl rfl (scalT (by decide)) (h := ?_)
         | refine wl_loadSK hK rfl rfl rfl (aggT (by decide)) (h := ?_)
         | refine wl_loadA0 rfl rfl rfl (scalT (by decide)) (h := ?_)
         | refine wl_loadA rfl rfl rfl (scalT (by decide)) (h := ?_)
         | refine wl_loadSA rfl rfl rfl (aggT (by decide)) (h := ?_))
    | (with_reducible refine atEnd_mk (by kernel_rfl) ?_))
  first | (refine bodyPost_ret (results_none rfl _ _ _) rfl ?_) | (refine bodyPost_end (results_none rfl _ _ _) rfl ?_)
  exact ⟨rfl, hK.mod⟩
/-- A slice of one's own is sorted. -/
theorem k_sort {w : World} {S : Nat → Prop} {ad : Option Addr} {n cap : Nat} {l : List Int} (hlen : l.length ≤ 1048576) (h : (rOw 3 elInt (.slice ad n cap) l).p w S) : Calls Tryz.prog 64 #[.slice ad n cap] w fun e w' =>
    e = .returned (.tuple #[]) ∧ Turn (rOw 3 elInt (.slice ad n cap) (sortI l)) w w' S := by
  obtain ⟨hO, rfl⟩ := rOw_p.1 h
  have hn := hO.rd.n
  subst hn
  have hO2 := hO
  obtain ⟨h1, h2⟩ := hO2
  rcases h2 with ⟨h2, h3⟩ | ⟨g, cap', cur, h2, h3, h4, h5, h6, h7, h8⟩
  · injection h2 with e1 e2 e3
    subst e1 e3
    have hl : l = [] := List.eq_nil_of_length_eq_zero e2
    subst hl
    refine sort_nil.mono ?_
    rintro e w' ⟨rfl, m⟩
    refine ⟨rfl, m.mono fun _ h => h.elim, _, rOw_p.2 ⟨?_, rfl⟩, fun b hb => .inl hb⟩
    have e0 : sortI [] = [] := List.eq_nil_of_length_eq_zero (by rw [sortI_len]; rfl)
    rw [e0]
    exact hO.mod m fun _ _ h => h
  · injection h2 with e1 e2 e3
    subst e1 e3
    have ht : cur.toList.take l.length = l.map encI := by rw [← flat_int, ← h8]; simp
    refine (Any.slices_Sort_int Tryz.lays189 g 0 cap l w (holds_int h4 ht) (Array.getElem?_eq_some_iff.1 h4).1 (by omega)).mono ?_
    rintro e w' ⟨rfl, nn, os, rfl⟩
    refine ⟨rfl, (mod_sorted_int _).mono fun b hb => by cases hb; rfl, _, rOw_p.2 ⟨?_, rfl⟩, fun b hb => .inl hb⟩
    have hsl := sortI_len l
    have hcur : cur.size = cap * 1 := h7
    show Own _ _ 1 _ (sortI l).length (flat elInt.cells (sortI l))
    rw [hsl, flat_int]
    refine ⟨by rw [List.length_map, hsl]; omega, .inr ⟨g, cap, _, rfl, Nat.zero_le _, heap_sorted_int _ h4, h5, h6, by simp [Go.Sort.putCells, hcur], ?_⟩⟩
    rw [Nat.mul_one, ← hsl]
    exact take_put_int cur (sortI l) (by rw [hsl]; omega)
end Go.Proofs.YtngeeilkpnihmaaGreatDoor
