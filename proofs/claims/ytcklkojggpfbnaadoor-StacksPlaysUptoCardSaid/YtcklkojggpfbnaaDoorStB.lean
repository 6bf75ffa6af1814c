/- Texts of mine that belong together: St6, St7, St8. -/
import Derived.Test.YtcklkojggpfbnaaDoorStA
import Derived.Test.YtcklkojggpfbnaaDoorSkB
import Derived.WalkMore
set_option linter.all false
/- The law's own gatherer: told$1. -/
namespace Go.Proofs.YtcklkojggpfbnaaDoor
open Go Go.Sk Go.RowKit
set_option maxRecDepth 100000

/-- What is gathered. -/
def gath (bl bm : Nat) (most : Int) (ad : Option Addr) (cap : Nat) (acc : List StackV) : List Res := [rMany (acc.map binRes), rBlk bl [.slice ad acc.length cap] 24, rBlk bm [.int .i64 most] 3, rOw 42 elStack (.slice ad acc.length cap) acc]

set_option maxHeartbeats 2000000 in
theorem tell_calls {w : World} {S : Nat → Prop} {L : List Res} {x : Cell} {v : Sv Int} {bl bm : Nat} {most : Int} {ad : Option Addr} {cap : Nat} {acc : List StackV} (hK : Know w w S (rOw 3 elInt v.val v.l :: gath bl bm most ad cap acc) L) (hl : acc.length ≤ 1048576) :
    Calls Tryd.prog 51 #[.agg x.cells.toArray, v.val, .pointer (some ⟨bl, 0, none⟩), .pointer (some ⟨bm, 0, none⟩)] w fun e w' => e = .returned (.bool (decide ((acc.length : Int) + 1 < most))) ∧ ∃ ad' cap', Turns (gath bl bm most ad' cap' (acc ++ [⟨x, v⟩])) w w' S := by
  obtain ⟨va, vl, vc⟩ := v
  simp only [gath] at hK
  obtain ⟨q, hq⟩ : ∃ q, q = decide ((acc.length : Int) + 1 < most) := ⟨_, rfl⟩
  have hq2 : decide ((((acc ++ [(⟨x, ⟨va, vl, vc⟩⟩ : StackV)]).length : Nat) : Int) < most) = q := by rw [hq, List.length_append]; simp
  have HQ := Lib.hid hq2
  rw [← hq]
  clear hq2 hq
  go_enter Tryd.func51, Tryd.ntmps51
  go_wp2_with (first
    | ((with_reducible refine wl_at (o := ⟨some 4, .box _ _, _, _, _, _⟩) ?_)
       go_must (refine wl_boxK hK rfl rfl rfl rfl ?_; clear hK; intro w4 b4 hK))
    | ((with_reducible refine wl_at (o := ⟨some 8, _, _, _, _, _⟩) ?_); go_must (refine wl_loadP0 [.int .i64 x.x, .int .i64 x.y] rfl rfl rfl (aggT (by decide)) (hat := (hK.blk (b := b4) (cs := x.cells) (T := 39)).at0) (h := ?_)))
    | ((with_reducible refine wl_at (o := ⟨some 11, _, _, _, _, _⟩) ?_); go_must (refine wl_buildK 42 elStack [(⟨x, ⟨va, vl, vc⟩⟩ : StackV)] hK rfl rfl (fun W => by kernel_rfl) rfl (by decide) ?_; clear hK; intro adb w11 hK))
    | ((with_reducible refine wl_at (o := ⟨some 12, _, _, _, _, _⟩) ?_)
       go_must (refine wl_appK (xs := acc) (ys := [(⟨x, ⟨va, vl, vc⟩⟩ : StackV)]) hK stackTy rfl rfl rfl rfl hK.rd (by simp; unfold maxLen; omega) (by simp; omega) (h := ?_); clear hK; intro ad2 N2 cap2 w12 hN2 hK; subst hN2; simp only [List.set_cons_zero, List.set_cons_succ] at hK))
    | ((with_reducible refine wl_at (o := ⟨none, .store 24 _ _, _, _, _, _⟩) ?_); go_must (refine wl_storeK hK rfl rfl rfl rfl (sizT (by decide)) rfl (hk := by exact Nat.succ_pos _) (h := ?_); clear hK; intro w13 hK; simp only [List.set_cons_zero, List.set_cons_succ] at hK))
    | go_big_skip
    | ((with_reducible refine wl_at (o := ⟨_, .load _ _, _, _, _, _⟩) ?_)
       first
         | refine wl_loadK hK rfl rfl rfl (scalT (by decide)) (h := ?_)
         | refine wl_loadSK hK rfl rfl rfl (aggT (by decide)) (h := ?_)
         | refine wl_loadA0 rfl rfl rfl (scalT (by decide)) (h := ?_)
         | refine wl_loadA rfl rfl rfl (scalT (by decide)) (h := ?_)
         | refine wl_loadSA rfl rfl rfl (aggT (by decide)) (h := ?_))
    | (with_reducible refine atEnd_mk (by kernel_rfl) ?_))
  go_ret
  refine ⟨by rw [← HQ.out]; simp, ad2, cap2, ?_⟩
  exact by
    have := (hK.sub (.cons _ (.cons _ (List.Sublist.refl _)))).putLast.turns
    unfold gath
    rw [List.map_append]
    exact this
end Go.Proofs.YtcklkojggpfbnaaDoor

/- What goes through all stacks: All, All$1, told. -/
namespace Go.Proofs.YtcklkojggpfbnaaDoor
open Go Go.Sk Go.RowKit
set_option maxRecDepth 100000

set_option maxHeartbeats 400000 in
theorem sall_calls {p : Nat} (w : World) : Calls Tryd.prog 50 #[.pointer (some ⟨p, 0, none⟩)] w fun e w' => ∃ b, e = .returned (.func (.func 64) #[] #[.pointer (some ⟨b, 0, none⟩)]) ∧ Turn (rBlk b [.pointer (some ⟨p, 0, none⟩)] 28) w w' none' := by
  have hmf : ∀ (fn : Fn) (first cap : Array Value) (w : World), (Instr.makeFunc fn first cap).run Tryd.prog w = .ok (.func fn first cap) w := fun _ _ _ _ => rfl
  have hK : Know w w none' [] [] := Know.start w (by simp)
  go_enter Tryd.func50, Tryd.ntmps50
  go_wp2_with (first
    | ((with_reducible refine wl_at (o := ⟨some 1, .box _ _, _, _, _, _⟩) ?_)
       go_must (refine wl_boxK hK rfl rfl rfl rfl ?_; clear hK; intro w1 b1 hK))
    | go_big_skip
    | ((with_reducible refine wl_at (o := ⟨_, .load _ _, _, _, _, _⟩) ?_)
       first
         | refine wl_loadK hK rfl rfl rfl (scalT (by decide)) (h := ?_)
         | refine wl_loadSK hK rfl rfl rfl (aggT (by decide)) (h := ?_)
         | refine wl_loadA0 rfl rfl rfl (scalT (by decide)) (h := ?_)
         | refine wl_loadA rfl rfl rfl (scalT (by decide)) (h := ?_)
         | refine wl_loadSA rfl rfl rfl (aggT (by decide)) (h := ?_))
    | (with_reducible refine atEnd_mk (by kernel_rfl) ?_))
  go_ret
  exact ⟨_, rfl, hK.turn⟩

set_option maxHeartbeats 4000000 in
theorem sall1_calls {c : ConfP} {s : StV} {f : Cell → List Int} {w : World} {S : Nat → Prop} {L : List Res} {bs bl bm : Nat} {most : Int} {ad : Option Addr} {cap : Nat} (hK : Know w w S (gath bl bm most ad cap []) L) (hL : ∀ r ∈ rBlk bs [s.ptr] 28 :: rSt c s, r ∈ L) (h : StOk c s f) (h1 : 1 ≤ most) :
    Calls Tryd.prog 64 #[.func (.func 51) #[] #[.pointer (some ⟨bl, 0, none⟩), .pointer (some ⟨bm, 0, none⟩)], .pointer (some ⟨bs, 0, none⟩)] w fun e w' =>
      e = .returned (.tuple #[]) ∧ ∃ ad' cap' acc, acc.map StackV.p = (toldTo c f s.A).take most.toNat ∧ Turns (gath bl bm most ad' cap' acc) w w' S := by
  replace hK := hK.subL hL
  have hlen : s.rows.length = s.A := by have := congrArg List.length h.rows; rw [List.length_map, gridL_len] at this; exact this
  have ha2 := (nums_iff.1 h.may.nums).area
  have hnw := (nums_iff.1 h.may.nums).w
  have hA := h.A
  have hA256 : s.A ≤ 256 := by omega
  have hl := may_laid h.may
  have hok := mkG_ok (b := s.b) (A := s.A) (cap := s.cap) (ad := s.ad) hl h.A (kind2_bd h.may.ports8 (homes c))
  have hopen := Lib.hid (fun (W : World) (x : Cell) (h1 : Blk W s.b [.int .i64 c.w, .int .i64 c.h, .slice s.ad s.A s.cap] 90) (h2 : Rd W elInt (.slice s.ad s.A s.cap) (gridL s.A c.w (kind2 c (homes c)))) =>
    show Calls Tryd.prog 65 #[.pointer (some ⟨s.b, 0, none⟩), .agg x.cells.toArray] W (Ret (.bool (openB c x)) W) by
      have := gr_open (g := mkG c s.b s.A s.cap s.ad (kind2 c (homes c))) (x := x) ⟨h1, h2⟩ hok
      rw [mkG_open h.A fun y => kind2_open (homes_free h.may)] at this
      exact this)
  have HQ := Lib.hid h
  have HL := Lib.hid hlen
  have hw1 : 1 ≤ c.w := hnw.1
  clear h hl hok ha2 hA hlen
  simp only [rSt, StV.lv] at hK
  go_enter Tryd.func64, Tryd.ntmps64
  go_wp2_with (first
    | go_big_skip
    | ((with_reducible refine wl_at (o := ⟨_, .load _ _, _, _, _, _⟩) ?_)
       first
         | refine wl_loadK hK rfl rfl rfl (scalT (by decide)) (h := ?_)
         | refine wl_loadSK hK rfl rfl rfl (aggT (by decide)) (h := ?_)
         | refine wl_loadA0 rfl rfl rfl (scalT (by decide)) (h := ?_)
         | refine wl_loadA rfl rfl rfl (scalT (by decide)) (h := ?_)
         | refine wl_loadSA rfl rfl rfl (aggT (by decide)) (h := ?_))
    | (with_reducible refine atEnd_mk (by kernel_rfl) ?_))
  go_loopw [3, 4, 12] (fun _ _ i wr => ∃ (n : Nat) (acc : List StackV) (ad : Option Addr) (cap : Nat), i = .int .i64 n ∧ n ≤ s.A ∧ Hid (acc.map StackV.p = toldTo c f n) ∧ (acc.length : Int) < most ∧ acc.length ≤ 256 ∧ Know w wr S (gath bl bm most ad cap acc) [rBlk bs [s.ptr] 28, rMany (s.rows.map rowRes), rBlk s.p (stCells c s) 72, rOw 3 elInt (.slice s.lad s.ln s.lcap) s.loads, rOw 40 elSv (.slice s.rad s.A s.rcap) s.rows,
  rBlk s.b [.int .i64 c.w, .int .i64 c.h, .slice s.ad s.A s.cap] 90, rOw 3 elInt (.slice s.ad s.A s.cap) (gridL s.A c.w (kind2 c (homes c)))]) (fun _ _ i _ => s.A - (intOf i).toNat)
  case atStart => exact ⟨0, [], ad, cap, rfl, Nat.zero_le _, rfl, by simp; omega, by simp, hK⟩
  case round =>
    obtain ⟨n, acc, ad, cap, rfl, hn, hP, hlm, hl256, hK⟩ := hrel
    by_cases hlt : n < s.A
    · obtain ⟨x, hx⟩ : ∃ x, x = cellAt c.w n := ⟨_, rfl⟩
      have hi : inB c x = true := by rw [hx]; exact cellAt_in hw1 HQ.out.A hlt
      have hxx : (n : Int) % c.w = x.x := by rw [hx]; rfl
      have hxy : (n : Int) / c.w = x.y := by rw [hx]; rfl
      have hib := inB_iff.1 hi
      have hn16 := nums_iff.1 HQ.out.may.nums
      have v1 : 0 ≤ x.x := hib.1
      have v2 : x.x ≤ 15 := by have := hn16.w; omega
      have v3 : 0 ≤ x.y := hib.2.1
      have v4 : x.y ≤ 15 := by have := hn16.h; omega
      obtain ⟨q, hq⟩ : ∃ q, q = openB c x := ⟨_, rfl⟩
      have kO := Lib.hid (fun (W : World) h1 h2 => hopen.out W x h1 h2)
      rw [← hq] at kO
      obtain ⟨row, hr⟩ : ∃ row, s.rows[n]? = some row := ⟨_, List.getElem?_eq_getElem (by rw [HL.out]; exact hlt)⟩
      have hrl : row.l = f x := by
        have := gridL_at (f := f) (w := c.w) hlt
        rw [← HQ.out.rows, List.getElem?_map, hr] at this
        injection this with this
        rw [hx]; exact this
      have hsh : row.l.length ≤ 1048576 := by rw [hrl]; have := HQ.out.short x; omega
      have HR := Lib.hid hr
      have HM := Lib.hid (List.mem_of_getElem? hr)
      have hT1 := toldTo_succ (c := c) (f := f) n
      unfold tellOne at hT1
      rw [← hx, ← hq] at hT1
      have HX := Lib.hid hx
      have HRL := Lib.hid hrl
      have hmodn : ((n : Int)).tmod c.w = x.x := by rw [Int.tmod_eq_emod_of_nonneg (by omega)]; exact hxx
      have hdivn : ((n : Int)).tdiv c.w = x.y := by rw [Int.tdiv_eq_ediv_of_nonneg (by omega)]; exact hxy
      cases q
      · have HT := Lib.hid (show toldTo c f (n + 1) = toldTo c f n by simpa using hT1)
        clear hi hib hn16 hq hr hrl hT1 hx
        go_wp2_with (first
          | ((with_reducible refine wl_at (o := ⟨some 4, .alloc _, _, _, _, _⟩) ?_)
             go_must (refine wl_allocK (z := .agg ([.int .i64 0, .int .i64 0]).toArray) (zs := [.int .i64 0, .int .i64 0]) hK rfl rfl (by kernel_rfl) rfl ?_; clear hK; intro w4 b4 hK))
          | ((with_reducible refine wl_at (o := ⟨none, .store 39 _ _, _, _, _, _⟩) ?_)
             go_must (refine wl_storeWK (vs := Cell.cells x) hK rfl rfl rfl rfl (aggS (by decide)) (elCell.one x) (h := ?_); clear hK; intro w' hK; simp only [List.set_cons_zero, List.set_cons_succ] at hK))
          | (go_at_call 65; go_must (refine (hK.quiet (kO.out _ hK.blk hK.rd)).mono ?_; clear hK; rintro e w' ⟨rfl, hK⟩))
          | go_big_skip
          | ((with_reducible refine wp_region_stableK (id := 5) hK [8] [rBlk b4 (Cell.cells x) 39] (by kernel_rfl) (by kernel_rfl) (by simp) (by kernel_rfl) ?_); clear hK; intro w' hK)
          | (with_reducible refine wpC_of ?_)
          | (with_reducible refine atEndC (hK.cls (by simp)) ?_)
          | ((with_reducible refine wpC_end' ?_); refine wpC_nil ⟨by kernel_rfl, stays_skip rfl rfl stays_nil, ?_⟩)
          | ((with_reducible refine wp_region_textK (id := 4) hK (by kernel_rfl) (by kernel_rfl) ?_); clear hK; intro w' hK)
          | go_big_skip
          | ((with_reducible refine wl_at (o := ⟨_, .load _ _, _, _, _, _⟩) ?_)
             first
               | refine wl_loadK hK rfl rfl rfl (scalT (by decide)) (h := ?_)
               | refine wl_loadSK hK rfl rfl rfl (aggT (by decide)) (h := ?_)
               | refine wl_loadA0 rfl rfl rfl (scalT (by decide)) (h := ?_)
               | refine wl_loadA rfl rfl rfl (scalT (by decide)) (h := ?_)
               | refine wl_loadSA rfl rfl rfl (aggT (by decide)) (h := ?_))
          | (with_reducible refine atEnd_mk (by kernel_rfl) ?_))
        go_roundw
        case rel =>
          exact ⟨n + 1, acc, ad, cap, by go_num, by omega, by show _ = _; rw [HT.out]; exact hP.out, hlm, hl256, hK.sub (.cons _ (List.Sublist.refl _))⟩
        case measure => simp [intOf]; omega
      · have HT := Lib.hid (show toldTo c f (n + 1) = toldTo c f n ++ [⟨x, f x⟩] by simpa using hT1)
        have HN := Lib.hid (show ∀ (a : Option Addr) (k : Nat), (acc ++ [(⟨x, ⟨a, row.l, k⟩⟩ : StackV)]).map StackV.p = toldTo c f (n + 1) from fun a k => by
          rw [HT.out, ← hP.out, List.map_append, ← hrl]; rfl)
        have hacc := congrArg List.length hP.out
        rw [List.length_map] at hacc
        have hle := toldTo_le (c := c) (f := f) n
        have hl2 : acc.length + 1 ≤ 256 := by omega
        clear hi hib hn16 hq hr hrl hT1 hx hacc hle
        by_cases hmo : (acc.length : Int) + 1 < most
        · have hd : decide ((acc.length : Int) + 1 < most) = true := decide_eq_true hmo
          go_wp2_with (first
            | ((with_reducible refine wl_at (o := ⟨some 4, .alloc _, _, _, _, _⟩) ?_)
               go_must (refine wl_allocK (z := .agg ([.int .i64 0, .int .i64 0]).toArray) (zs := [.int .i64 0, .int .i64 0]) hK rfl rfl (by kernel_rfl) rfl ?_; clear hK; intro w4 b4 hK))
            | ((with_reducible refine wl_at (o := ⟨none, .store 39 _ _, _, _, _, _⟩) ?_)
               go_must (refine wl_storeWK (vs := Cell.cells x) hK rfl rfl rfl rfl (aggS (by decide)) (elCell.one x) (h := ?_); clear hK; intro w' hK; simp only [List.set_cons_zero, List.set_cons_succ] at hK))
            | (go_at_call 65; go_must (refine (hK.quiet (kO.out _ hK.blk hK.rd)).mono ?_; clear hK; rintro e w' ⟨rfl, hK⟩))
            | (go_at_call 40; go_must (refine (listInt_calls (s := row) ((row_has (c := c) (s := s) (fun r hr => hK.has (List.mem_cons_of_mem _ hr)) HM.out)).rd hsh).mono ?_; rintro e w' ⟨adl, capl, rfl, hT⟩; replace hK := hK.push1 hT; clear hT))
            | (go_at_call 51
               go_must (obtain ⟨S1, k1, k2⟩ := Know.focus (R := rOw 3 elInt (Sv.val ⟨adl, row.l, capl⟩) row.l :: gath bl bm most ad cap acc) (M := [rBlk b4 (Cell.cells x) 39]) (Know.swap (A := [rBlk b4 (Cell.cells x) 39]) (hK.pull (.tail .head)))
                        refine (tell_calls (x := x) (v := ⟨adl, row.l, capl⟩) k1 (by omega)).mono ?_; clear hK; rintro e w' ⟨rfl, ad3, cap3, hT⟩; have hK := k2 _ _ hT; clear k1 k2 hT))
            | go_big_skip
            | ((with_reducible refine wp_region_stableK (id := 5) hK [8] [rBlk b4 (Cell.cells x) 39] (by kernel_rfl) (by kernel_rfl) (by simp) (by kernel_rfl) ?_); clear hK; intro w' hK)
            | (with_reducible refine wpC_of ?_)
            | (with_reducible refine atEndC (hK.cls (by simp)) ?_)
            | ((with_reducible refine wpC_end' ?_); refine wpC_nil ⟨by kernel_rfl, stays_loadSK rfl rfl rfl rfl (aggT (by decide)) (rest := stays_nil), ?_⟩)
            | ((with_reducible refine wl_at (o := ⟨some 42, _, _, _, _, _⟩) ?_)
               go_must (refine wl_ixK hK rfl rfl rfl rfl rowTy.und rowTy.size (h := ?_); intro b42 k42 hat42))
            | ((with_reducible refine wp_region_textK (id := 4) hK (by kernel_rfl) (by kernel_rfl) ?_); clear hK; intro w' hK)
            | go_big_skip
            | ((with_reducible refine wl_at (o := ⟨_, .load _ _, _, _, _, _⟩) ?_)
               first
                 | refine wl_loadK hK rfl rfl rfl (scalT (by decide)) (h := ?_)
                 | refine wl_loadSK hK rfl rfl rfl (aggT (by decide)) (h := ?_)
                 | refine wl_loadA0 rfl rfl rfl (scalT (by decide)) (h := ?_)
                 | refine wl_loadA rfl rfl rfl (scalT (by decide)) (h := ?_)
                 | refine wl_loadSA rfl rfl rfl (aggT (by decide)) (h := ?_))
            | (with_reducible refine atEnd_mk (by kernel_rfl) ?_))
          go_roundw
          case rel =>
            exact ⟨n + 1, acc ++ [⟨x, ⟨adl, row.l, capl⟩⟩], ad3, cap3, by go_num, by omega, Lib.hid (HN.out adl capl), by simp; omega, by simp; omega, hK.sub (List.sublist_append_left _ _)⟩
          case measure => simp [intOf]; omega

        · have hd : decide ((acc.length : Int) + 1 < most) = false := decide_eq_false hmo
          go_wp2_with (first
            | ((with_reducible refine wl_at (o := ⟨some 4, .alloc _, _, _, _, _⟩) ?_)
               go_must (refine wl_allocK (z := .agg ([.int .i64 0, .int .i64 0]).toArray) (zs := [.int .i64 0, .int .i64 0]) hK rfl rfl (by kernel_rfl) rfl ?_; clear hK; intro w4 b4 hK))
            | ((with_reducible refine wl_at (o := ⟨none, .store 39 _ _, _, _, _, _⟩) ?_)
               go_must (refine wl_storeWK (vs := Cell.cells x) hK rfl rfl rfl rfl (aggS (by decide)) (elCell.one x) (h := ?_); clear hK; intro w' hK; simp only [List.set_cons_zero, List.set_cons_succ] at hK))
            | (go_at_call 65; go_must (refine (hK.quiet (kO.out _ hK.blk hK.rd)).mono ?_; clear hK; rintro e w' ⟨rfl, hK⟩))
            | (go_at_call 40; go_must (refine (listInt_calls (s := row) ((row_has (c := c) (s := s) (fun r hr => hK.has (List.mem_cons_of_mem _ hr)) HM.out)).rd hsh).mono ?_; rintro e w' ⟨adl, capl, rfl, hT⟩; replace hK := hK.push1 hT; clear hT))
            | (go_at_call 51
               go_must (obtain ⟨S1, k1, k2⟩ := Know.focus (R := rOw 3 elInt (Sv.val ⟨adl, row.l, capl⟩) row.l :: gath bl bm most ad cap acc) (M := [rBlk b4 (Cell.cells x) 39]) (Know.swap (A := [rBlk b4 (Cell.cells x) 39]) (hK.pull (.tail .head)))
                        refine (tell_calls (x := x) (v := ⟨adl, row.l, capl⟩) k1 (by omega)).mono ?_; clear hK; rintro e w' ⟨rfl, ad3, cap3, hT⟩; have hK := k2 _ _ hT; clear k1 k2 hT))
            | go_big_skip
            | ((with_reducible refine wp_region_stableK (id := 5) hK [8] [rBlk b4 (Cell.cells x) 39] (by kernel_rfl) (by kernel_rfl) (by simp) (by kernel_rfl) ?_); clear hK; intro w' hK)
            | (with_reducible refine wpC_of ?_)
            | (with_reducible refine atEndC (hK.cls (by simp)) ?_)
            | ((with_reducible refine wpC_end' ?_); refine wpC_nil ⟨by kernel_rfl, stays_loadSK rfl rfl rfl rfl (aggT (by decide)) (rest := stays_nil), ?_⟩)
            | ((with_reducible refine wl_at (o := ⟨some 42, _, _, _, _, _⟩) ?_)
               go_must (refine wl_ixK hK rfl rfl rfl rfl rowTy.und rowTy.size (h := ?_); intro b42 k42 hat42))
            | ((with_reducible refine wp_region_textK (id := 4) hK (by kernel_rfl) (by kernel_rfl) ?_); clear hK; intro w' hK)
            | go_big_skip
            | ((with_reducible refine wl_at (o := ⟨_, .load _ _, _, _, _, _⟩) ?_)
               first
                 | refine wl_loadK hK rfl rfl rfl (scalT (by decide)) (h := ?_)
                 | refine wl_loadSK hK rfl rfl rfl (aggT (by decide)) (h := ?_)
                 | refine wl_loadA0 rfl rfl rfl (scalT (by decide)) (h := ?_)
                 | refine wl_loadA rfl rfl rfl (scalT (by decide)) (h := ?_)
                 | refine wl_loadSA rfl rfl rfl (aggT (by decide)) (h := ?_))
            | (with_reducible refine atEnd_mk (by kernel_rfl) ?_))
          first | (refine bodyPost_ret (results_none rfl _ _ _) rfl ?_) | (refine bodyPost_end (results_none rfl _ _ _) rfl ?_)
          refine ⟨rfl, ad3, cap3, acc ++ [⟨x, ⟨adl, row.l, capl⟩⟩], ?_, (hK.sub (List.sublist_append_left _ _)).turns⟩
          have h2 := HN.out adl capl
          rw [h2]
          have h3 := congrArg List.length h2
          rw [List.length_map, List.length_append] at h3
          exact (toldTo_take (by omega) (by rw [← h3]; simp; omega)).symm
    · obtain rfl : n = s.A := by omega
      go_wp2_with (first
        | go_big_skip
        | ((with_reducible refine wl_at (o := ⟨_, .load _ _, _, _, _, _⟩) ?_)
           first
             | refine wl_loadK hK rfl rfl rfl (scalT (by decide)) (h := ?_)
             | refine wl_loadSK hK rfl rfl rfl (aggT (by decide)) (h := ?_)
             | refine wl_loadA0 rfl rfl rfl (scalT (by decide)) (h := ?_)
             | refine wl_loadA rfl rfl rfl (scalT (by decide)) (h := ?_)
             | refine wl_loadSA rfl rfl rfl (aggT (by decide)) (h := ?_))
        | (with_reducible refine atEnd_mk (by kernel_rfl) ?_))
      first | (refine bodyPost_ret (results_none rfl _ _ _) rfl ?_) | (refine bodyPost_end (results_none rfl _ _ _) rfl ?_)
      refine ⟨rfl, ad, cap, acc, ?_, hK.turns⟩
      rw [hP.out, List.take_of_length_le]
      have := congrArg List.length hP.out
      rw [List.length_map] at this
      omega

set_option maxHeartbeats 2000000 in
theorem told_calls {c : ConfP} {s : StV} {f : Cell → List Int} {w : World} {most : Int} (hg : ∀ r ∈ rSt c s, Has w r) (h : StOk c s f) (h1 : 1 ≤ most) : Calls Tryd.prog 15 #[s.ptr, .int .i64 most] w fun e w' =>
    ∃ t : Sv StackV, e = .returned t.val ∧ t.l.map StackV.p = (toldTo c f s.A).take most.toNat ∧ Turns [rMany (t.l.map binRes), rOw 42 elStack t.val t.l] w w' none' := by
  have hK : Know w w none' [] (rSt c s) := Know.start (L := rSt c s) w hg
  have hmf : ∀ (fn : Fn) (first cap : Array Value) (w : World), (Instr.makeFunc fn first cap).run Tryd.prog w = .ok (.func fn first cap) w := fun _ _ _ _ => rfl
  have HQ := Lib.hid h
  clear h
  go_enter Tryd.func15, Tryd.ntmps15
  go_wp2_with (first
    | ((with_reducible refine wl_at (o := ⟨some 3, .box _ _, _, _, _, _⟩) ?_)
       go_must (refine wl_boxK hK rfl rfl rfl rfl ?_; clear hK; intro w3 b3 hK))
    | (go_at_call 50; go_must (refine (sall_calls (p := s.p) _).mono ?_; rintro e w2 ⟨b2, rfl, hT⟩; replace hK := hK.push1 hT; clear hT))
    | ((with_reducible refine wl_at (o := ⟨some 10, _, _, _, _, _⟩) ?_); go_must (refine wl_val (v := .bool false) (w' := w2) rfl (by kernel_rfl) ?_))
    | go_big_skip
    | ((with_reducible refine wl_at (o := ⟨some 6, .alloc _, _, _, _, _⟩) ?_)
       go_must (refine wl_allocK (z := .slice none 0 0) (zs := [.slice none 0 0]) hK rfl rfl (by kernel_rfl) rfl ?_; clear hK; intro w6 b6 hK))
    | (go_at_call 64
       go_must (replace hK := (((hK.pull (.tail .head)).freeze.nil 42 elStack).swap (A := [_])).push1 (r := rMany (List.map binRes [])) ⟨Mod.refl _ _, fun _ => False, rMany_p.2 (fun _ h => h), fun _ h => h.elim⟩
                obtain ⟨S1, k1, k2⟩ := Know.focus (R := gath b6 b3 most none 0 []) (M := []) hK
                refine (sall1_calls (c := c) (s := s) (bs := b2) k1 (fun r hr => hr) HQ.out h1).mono ?_; clear hK; rintro e w' ⟨rfl, ad3, cap3, acc, hP, hT⟩; have hK := k2 _ _ hT; clear k1 k2 hT; replace hP := Lib.hid hP; simp only [gath, List.cons_append, List.nil_append] at hK))
    | go_big_skip
    | ((with_reducible refine wl_at (o := ⟨_, .load _ _, _, _, _, _⟩) ?_)
       first
         | refine wl_loadK hK rfl rfl rfl (scalT (by decide)) (h := ?_)
         | refine wl_loadSK hK rfl rfl rfl (aggT (by decide)) (h := ?_)
         | refine wl_loadA0 rfl rfl rfl (scalT (by decide)) (h := ?_)
         | refine wl_loadA rfl rfl rfl (scalT (by decide)) (h := ?_)
         | refine wl_loadSA rfl rfl rfl (aggT (by decide)) (h := ?_))
    | (with_reducible refine atEnd_mk (by kernel_rfl) ?_))
  go_ret
  refine ⟨⟨ad3, acc, cap3⟩, rfl, hP.out, ?_⟩
  exact (hK.sub (.cons_cons _ (.cons _ (.cons _ (List.Sublist.refl _))))).turns
end Go.Proofs.YtcklkojggpfbnaaDoor

/- The stacks: Find. -/
namespace Go.Proofs.YtcklkojggpfbnaaDoor
open Go Go.Sk Go.RowKit
set_option maxRecDepth 100000

def FindPost (c : ConfP) (s : StV) (bin : Int) (w : World) (e : Ending) (w' : World) : Prop :=
  ((∃ (n i : Nat) (row : Sv Int), s.rows[n]? = some row ∧ row.l[i]? = some bin ∧ (∀ k r, k < n → s.rows[k]? = some r → bin ∉ r.l) ∧ (∀ k, k < i → row.l[k]? ≠ some bin) ∧ e = .returned (.tuple #[.agg (cellAt c.w n).cells.toArray, .int .i64 ((row.l.length : Int) - 1 - i), .bool true])) ∨
   ((∀ row ∈ s.rows, bin ∉ row.l) ∧ e = .returned (.tuple #[.agg (Cell.mk 0 0).cells.toArray, .int .i64 0, .bool false]))) ∧ Mod none' w w'

set_option maxHeartbeats 4000000 in
theorem s_find {c : ConfP} {s : StV} {f : Cell → List Int} {bin : Int} {w : World} (hg : ∀ r ∈ rSt c s, Has w r) (h : StOk c s f) : Calls Tryd.prog 25 #[s.ptr, .int .i64 bin] w (FindPost c s bin w) := by
  have hK : Know w w none' [] (rSt c s) := Know.start (L := rSt c s) w hg
  have hlen : s.rows.length = s.A := by have := congrArg List.length h.rows; rw [List.length_map, gridL_len] at this; exact this
  have ha2 := (nums_iff.1 h.may.nums).area
  have hnw := (nums_iff.1 h.may.nums).w
  have hA := h.A
  have hA256 : s.A ≤ 256 := by omega
  have hw1 : 1 ≤ c.w := hnw.1
  have hw2 : c.w ≤ 16 := hnw.2
  have HQ := Lib.hid h
  have HL := Lib.hid hlen
  clear h hlen ha2 hA hnw
  simp only [rSt, StV.lv] at hK
  go_enter Tryd.func25, Tryd.ntmps25
  go_wp2_with (first
    | ((with_reducible refine wl_at (o := ⟨some 4, .alloc _, _, _, _, _⟩) ?_)
       go_must (refine wl_allocK (z := .agg ([.int .i64 0, .int .i64 0]).toArray) (zs := [.int .i64 0, .int .i64 0]) hK rfl rfl (by kernel_rfl) rfl ?_; clear hK; intro w4 b4 hK)))
  go_step3
  go_wp2_with (first
    | ((with_reducible refine wl_at (o := ⟨some 7, .alloc _, _, _, _, _⟩) ?_)
       go_must (refine wl_allocK (z := .agg ([.int .i64 0, .int .i64 0]).toArray) (zs := [.int .i64 0, .int .i64 0]) hK rfl rfl (by kernel_rfl) rfl ?_; clear hK; intro w7 b7 hK))
    | ((with_reducible refine wl_at (o := ⟨none, .store 39 _ _, _, _, _, _⟩) ?_)
       go_must (refine wl_storeWK (vs := Cell.cells ⟨0, 0⟩) hK rfl rfl rfl rfl (aggS (by decide)) (elCell.one _) (h := ?_); clear hK; intro w' hK; simp only [List.set_cons_zero, List.set_cons_succ] at hK))
    | go_big_skip
    | ((with_reducible refine wl_at (o := ⟨_, .load _ _, _, _, _, _⟩) ?_)
       first
         | refine wl_loadK hK rfl rfl rfl (scalT (by decide)) (h := ?_)
         | refine wl_loadSK hK rfl rfl rfl (aggT (by decide)) (h := ?_)
         | refine wl_loadA0 rfl rfl rfl (scalT (by decide)) (h := ?_)
         | refine wl_loadA rfl rfl rfl (scalT (by decide)) (h := ?_)
         | refine wl_loadSA rfl rfl rfl (aggT (by decide)) (h := ?_))
    | (with_reducible refine atEnd_mk (by kernel_rfl) ?_))
  go_step3
  go_wp2_with (first
    | go_big_skip
    | ((with_reducible refine wl_at (o := ⟨_, .load _ _, _, _, _, _⟩) ?_)
       first
         | refine wl_loadK hK rfl rfl rfl (scalT (by decide)) (h := ?_)
         | refine wl_loadSK hK rfl rfl rfl (aggT (by decide)) (h := ?_)
         | refine wl_loadA0 rfl rfl rfl (scalT (by decide)) (h := ?_)
         | refine wl_loadA rfl rfl rfl (scalT (by decide)) (h := ?_)
         | refine wl_loadSA rfl rfl rfl (aggT (by decide)) (h := ?_))
    | (with_reducible refine atEnd_mk (by kernel_rfl) ?_))
  go_loopw [25, 8, 9, 10, 11, 12, 13] (fun i v8 v9 _ _ _ _ wr => ∃ n : Nat, i = .int .i64 n ∧ v8 = .int .i64 0 ∧ v9 = .bool false ∧ n ≤ s.A ∧ Hid (∀ (k : Nat) (row : Sv Int), k < n → s.rows[k]? = some row → bin ∉ row.l) ∧ Know w wr none' [rBlk b7 (Cell.cells ⟨0, 0⟩) 39, rBlk b4 [.int .i64 0, .int .i64 0] 39] [rMany (s.rows.map rowRes), rBlk s.p (stCells c s) 72, rOw 3 elInt (.slice s.lad s.ln s.lcap) s.loads, rOw 40 elSv (.slice s.rad s.A s.rcap) s.rows,
  rBlk s.b [.int .i64 c.w, .int .i64 c.h, .slice s.ad s.A s.cap] 90, rOw 3 elInt (.slice s.ad s.A s.cap) (gridL s.A c.w (kind2 c (homes c)))]) (fun i _ _ _ _ _ _ _ => s.A - (intOf i).toNat)
  case atStart => exact ⟨0, rfl, rfl, rfl, Nat.zero_le _, fun k row h => by omega, hK⟩
  case round =>
    obtain ⟨n, rfl, rfl, rfl, hn, hP, hK⟩ := hrel
    by_cases hlt : n < s.A
    · obtain ⟨row, hr⟩ : ∃ row, s.rows[n]? = some row := ⟨_, List.getElem?_eq_getElem (by rw [HL.out]; exact hlt)⟩
      have HR := Lib.hid hr
      have HM := Lib.hid (List.mem_of_getElem? hr)
      have hsh : row.l.length ≤ 1024 := by
        have h2 := gridL_at (f := f) (w := c.w) hlt
        rw [← HQ.out.rows, List.getElem?_map, hr] at h2
        injection h2 with h2
        have h3 : row.l = f (cellAt c.w n) := h2
        rw [h3]; exact HQ.out.short _
      clear hr
      go_wp2_with (first
        | ((with_reducible refine wl_at (o := ⟨some 28, _, _, _, _, _⟩) ?_)
           go_must (refine wl_ixK hK rfl rfl rfl rfl rowTy.und rowTy.size (h := ?_); intro b28 k28 hat28))
        | go_big_skip
        | ((with_reducible refine wl_at (o := ⟨_, .load _ _, _, _, _, _⟩) ?_)
           first
             | refine wl_loadK hK rfl rfl rfl (scalT (by decide)) (h := ?_)
             | refine wl_loadSK hK rfl rfl rfl (aggT (by decide)) (h := ?_)
             | refine wl_loadA0 rfl rfl rfl (scalT (by decide)) (h := ?_)
             | refine wl_loadA rfl rfl rfl (scalT (by decide)) (h := ?_)
             | refine wl_loadSA rfl rfl rfl (aggT (by decide)) (h := ?_))
        | (with_reducible refine atEnd_mk (by kernel_rfl) ?_))
      go_loopw [32, 8, 9, 12, 13] (fun i v8 v9 _ _ wr => ∃ m : Nat, i = .int .i64 m ∧ v8 = .int .i64 0 ∧ v9 = .bool false ∧ m ≤ row.l.length ∧ Hid (∀ k, k < m → row.l[k]? ≠ some bin) ∧ Know w wr none' [rBlk b7 (Cell.cells ⟨0, 0⟩) 39, rBlk b4 [.int .i64 0, .int .i64 0] 39] [rMany (s.rows.map rowRes), rBlk s.p (stCells c s) 72, rOw 3 elInt (.slice s.lad s.ln s.lcap) s.loads, rOw 40 elSv (.slice s.rad s.A s.rcap) s.rows,
  rBlk s.b [.int .i64 c.w, .int .i64 c.h, .slice s.ad s.A s.cap] 90, rOw 3 elInt (.slice s.ad s.A s.cap) (gridL s.A c.w (kind2 c (homes c)))]) (fun i _ _ _ _ _ => row.l.length - (intOf i).toNat)
      case atStart => exact ⟨0, rfl, rfl, rfl, Nat.zero_le _, fun k h => by omega, hK⟩
      case round =>
        obtain ⟨m, rfl, rfl, rfl, hm, hP2, hK⟩ := hrel
        by_cases hlm : m < row.l.length
        · obtain ⟨v, hv⟩ : ∃ v, row.l[m]? = some v := ⟨_, List.getElem?_eq_getElem hlm⟩
          have HV := Lib.hid hv
          have hrd := (row_has (c := c) (s := s) (fun r hr => hK.has hr) HM.out).rd
          clear hv
          by_cases hvb : v = bin
          · subst hvb
            have e1 : (v == v) = true := beq_self_eq_true v
            have e2 : decide (v = v) = true := decide_eq_true rfl
            have hmodn : ((n : Int)).tmod c.w = (cellAt c.w n).x := by rw [Int.tmod_eq_emod_of_nonneg (by omega)]; rfl
            have hdivn : ((n : Int)).tdiv c.w = (cellAt c.w n).y := by rw [Int.tdiv_eq_ediv_of_nonneg (by omega)]; rfl
            have hxx : (n : Int) % c.w = (cellAt c.w n).x := rfl
            have hxy : (n : Int) / c.w = (cellAt c.w n).y := rfl
            have hi := inB_iff.1 (show inB c (cellAt c.w n) = true from cellAt_in (w := c.w) (h := c.h) hw1 HQ.out.A hlt)
            have hn16 := nums_iff.1 HQ.out.may.nums
            have v1 : 0 ≤ (cellAt c.w n).x := hi.1
            have v2 : (cellAt c.w n).x ≤ 15 := by have := hn16.w; omega
            have v3 : 0 ≤ (cellAt c.w n).y := hi.2.1
            have v4 : (cellAt c.w n).y ≤ 15 := by have := hn16.h; omega
            obtain ⟨x, hx⟩ : ∃ x, x = cellAt c.w n := ⟨_, rfl⟩
            rw [← hx] at hmodn hdivn hxx hxy v1 v2 v3 v4
            have HX := Lib.hid hx
            clear hi hn16 hx
            go_wp2_with (first
              | ((with_reducible refine wl_at (o := ⟨some 35, _, _, _, _, _⟩) ?_); go_must (refine wl_ix rfl rfl rfl rfl intTy.und intTy.size hrd HV.out ?_; intro b35 k35 hat35 hbk35))
              | ((with_reducible refine wl_at (o := ⟨none, .store 39 _ _, _, _, _, _⟩) ?_)
                 go_must (refine wl_storeWK (vs := Cell.cells x) hK rfl rfl rfl rfl (aggS (by decide)) (elCell.one x) (h := ?_); clear hK; intro w' hK; simp only [List.set_cons_zero, List.set_cons_succ] at hK))
              | ((with_reducible refine wp_region_textK (id := 11) hK (by kernel_rfl) (by kernel_rfl) ?_); clear hK; intro w' hK)
              | go_big_skip
              | ((with_reducible refine wl_at (o := ⟨_, .load _ _, _, _, _, _⟩) ?_)
                 first
                   | refine wl_loadK hK rfl rfl rfl (scalT (by decide)) (h := ?_)
                   | refine wl_loadSK hK rfl rfl rfl (aggT (by decide)) (h := ?_)
                   | refine wl_loadA0 rfl rfl rfl (scalT (by decide)) (h := ?_)
                   | refine wl_loadA rfl rfl rfl (scalT (by decide)) (h := ?_)
                   | refine wl_loadSA rfl rfl rfl (aggT (by decide)) (h := ?_))
              | (with_reducible refine atEnd_mk (by kernel_rfl) ?_))
            have hb4 := (hK.blk (b := b4) (cs := Cell.cells x) (T := 39)).at0
            refine bodyPost_ret (res_cellS_tmp2 rfl _ rfl (aggT (by decide)) rfl hb4) rfl ⟨.inl ⟨n, m, row, HR.out, HV.out, hP.out, hP2.out, ?_⟩, hK.mod⟩
            rw [← HX.out]
            rfl
          · have e1 : (v == bin) = false := beq_eq_false_iff_ne.2 hvb
            have e2 : decide (v = bin) = false := decide_eq_false hvb
            go_wp2_with (first
              | ((with_reducible refine wl_at (o := ⟨some 35, _, _, _, _, _⟩) ?_); go_must (refine wl_ix rfl rfl rfl rfl intTy.und intTy.size hrd HV.out ?_; intro b35 k35 hat35 hbk35))
              | go_big_skip
              | ((with_reducible refine wl_at (o := ⟨_, .load _ _, _, _, _, _⟩) ?_)
                 first
                   | refine wl_loadK hK rfl rfl rfl (scalT (by decide)) (h := ?_)
                   | refine wl_loadSK hK rfl rfl rfl (aggT (by decide)) (h := ?_)
                   | refine wl_loadA0 rfl rfl rfl (scalT (by decide)) (h := ?_)
                   | refine wl_loadA rfl rfl rfl (scalT (by decide)) (h := ?_)
                   | refine wl_loadSA rfl rfl rfl (aggT (by decide)) (h := ?_))
              | (with_reducible refine atEnd_mk (by kernel_rfl) ?_))
            go_roundw
            case rel =>
              refine ⟨m + 1, by go_num, rfl, rfl, by omega, fun k hk => ?_, hK⟩
              by_cases hkm : k = m
              · subst hkm; rw [HV.out]; intro h; injection h with h; exact hvb h
              · exact hP2.out k (by omega)
            case measure => simp [intOf]; omega
        · obtain rfl : m = row.l.length := by omega
          go_wp2_with (first
            | go_big_skip
            | ((with_reducible refine wl_at (o := ⟨_, .load _ _, _, _, _, _⟩) ?_)
               first
                 | refine wl_loadK hK rfl rfl rfl (scalT (by decide)) (h := ?_)
                 | refine wl_loadSK hK rfl rfl rfl (aggT (by decide)) (h := ?_)
                 | refine wl_loadA0 rfl rfl rfl (scalT (by decide)) (h := ?_)
                 | refine wl_loadA rfl rfl rfl (scalT (by decide)) (h := ?_)
                 | refine wl_loadSA rfl rfl rfl (aggT (by decide)) (h := ?_))
            | (with_reducible refine atEnd_mk (by kernel_rfl) ?_))
          go_roundw
          case rel =>
            refine ⟨n + 1, by go_num, rfl, rfl, by omega, fun k r hk hr hb => ?_, hK⟩
            by_cases hkn : k = n
            · subst hkn
              rw [HR.out] at hr
              injection hr with hr
              subst hr
              obtain ⟨i, hi⟩ := List.mem_iff_getElem?.1 hb
              exact hP2.out i (List.getElem?_eq_some_iff.1 hi).1 hi
            · exact hP.out k r (by omega) hr hb
          case measure => simp [intOf]; omega
    · obtain rfl : n = s.A := by omega
      go_wp2_with (first
        | ((with_reducible refine wl_at (o := ⟨none, .store 39 _ _, _, _, _, _⟩) ?_)
           go_must (refine wl_storeWK (vs := Cell.cells ⟨0, 0⟩) hK rfl rfl rfl rfl (aggS (by decide)) (elCell.one _) (h := ?_); clear hK; intro w' hK; simp only [List.set_cons_zero, List.set_cons_succ] at hK))
        | go_big_skip
        | ((with_reducible refine wl_at (o := ⟨_, .load _ _, _, _, _, _⟩) ?_)
           first
             | refine wl_loadK hK rfl rfl rfl (scalT (by decide)) (h := ?_)
             | refine wl_loadSK hK rfl rfl rfl (aggT (by decide)) (h := ?_)
             | refine wl_loadA0 rfl rfl rfl (scalT (by decide)) (h := ?_)
             | refine wl_loadA rfl rfl rfl (scalT (by decide)) (h := ?_)
             | refine wl_loadSA rfl rfl rfl (aggT (by decide)) (h := ?_))
        | (with_reducible refine atEnd_mk (by kernel_rfl) ?_))
      have hb4 := (hK.blk (b := b4) (cs := Cell.cells ⟨0, 0⟩) (T := 39)).at0
      refine bodyPost_ret (res_cellS_tmp2 rfl _ rfl (aggT (by decide)) rfl hb4) rfl ⟨.inr ⟨fun row hr hb => ?_, rfl⟩, hK.mod⟩
      obtain ⟨k, hk⟩ := List.mem_iff_getElem?.1 hr
      exact hP.out k row (by have := (List.getElem?_eq_some_iff.1 hk).1; have := HL.out; omega) hk hb
end Go.Proofs.YtcklkojggpfbnaaDoor
