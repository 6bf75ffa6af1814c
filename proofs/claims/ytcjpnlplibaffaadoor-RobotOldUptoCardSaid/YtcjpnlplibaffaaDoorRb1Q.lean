/- Robots: what there is in memory; grid, kinem, New. -/
import Derived.Test.YtcjpnlplibaffaaDoorGrA
import Derived.Test.YtcjpnlplibaffaaDoorSkBotQ
import Derived.Test.YtcjpnlplibaffaaDoorStC
import Derived.Test.YtcjpnlplibaffaaDoorSkPartQ
import Derived.Test.YtcjpnlplibaffaaDoorSkB
import Derived.Deep.LoopGhost
set_option linter.all false
namespace Go.Proofs.YtcjpnlplibaffaaDoor
open Go Go.Sk Go.RowKit
set_option maxRecDepth 100000

/-! the grid of a config, as one thing -/
@[irreducible] def rGRID (c : ConfP) (p : Nat) : Res where
  p w S := ∃ cap ad, MayP c ∧ Sep w (rGrid (mkG c p (c.w * c.h).toNat cap ad (kind2 c (homes c)))) S
  loc := by rintro w w' S ⟨a, b, h1, h2⟩ he; exact ⟨a, b, h1, h2.loc he⟩
  lt := by rintro w S ⟨_, _, _, h⟩; exact h.lt
theorem rGRID_p {c : ConfP} {p : Nat} {w : World} {S : Nat → Prop} : (rGRID c p).p w S ↔ ∃ cap ad, MayP c ∧ Sep w (rGrid (mkG c p (c.w * c.h).toNat cap ad (kind2 c (homes c)))) S := by unfold rGRID; exact Iff.rfl
theorem g_new {c : ConfV} {w : World} (hc : Has w (rConf c)) (hst : Has w stepsR) (hz : Sized c) (hwf : ∀ p ∈ c.robots.l, PoseWf p) : Calls Tryd.prog 17 #[.agg c.cells.toArray] w fun e w' =>
    (¬ MayP c.p ∧ e = .returned (.tuple #[.pointer none, .int .i64 5]) ∧ Mod none' w w') ∨ (MayP c.p ∧ ∃ p, e = .returned (.tuple #[.pointer (some ⟨p, 0, none⟩), .int .i64 0]) ∧ Turn (rGRID c.p p) w w' none') := by
  refine (gnew_calls hc hst hz hwf).mono ?_
  rintro e w' (⟨h1, rfl, h2⟩ | ⟨h1, p, cap, ad, rfl, hm, S, h2, h3⟩)
  · exact .inl ⟨h1, rfl, h2⟩
  · exact .inr ⟨h1, p, rfl, hm, S, rGRID_p.2 ⟨cap, ad, h1, h2⟩, h3⟩

/-! how robots go, as one thing -/
structure KRun where
  on : Bool
  pl : Sv Int
def KRun.cells (r : KRun) : List Value := [.int .u32 (if r.on then 1 else 0), .int .i32 0, .int .u32 0, r.pl.val]
def kinCells (k : KinP) (rs : List KRun) : List Value := [.int .i64 k.unit, .int .i64 k.accel, .int .i64 k.speed] ++ rs.flatMap KRun.cells
def runRes (r : KRun) : Res := rOw 3 elInt r.pl.val r.pl.l
def rKn (k : KinP) (p : Nat) (rs : List KRun) : List Res := [rMany (rs.map runRes), rBlk p (kinCells k rs) 91]
def nilInts : Sv Int := ⟨none, [], 0⟩
structure KnOk (k : KinP) (rs : List KRun) : Prop where
  ok : k.Ok
  len : rs.length = 17
  each : ∀ (j : Nat) (r : KRun), rs[j]? = some r → if r.on then r.pl.l = k.prof j else r.pl = nilInts
@[irreducible] def rKIN (k : KinP) (p : Nat) : Res where
  p w S := ∃ rs, KnOk k rs ∧ Sep w (rKn k p rs) S
  loc := by rintro w w' S ⟨a, h1, h2⟩ he; exact ⟨a, h1, h2.loc he⟩
  lt := by rintro w S ⟨_, _, h⟩; exact h.lt
theorem rKIN_p {k : KinP} {p : Nat} {w : World} {S : Nat → Prop} : (rKIN k p).p w S ↔ ∃ rs, KnOk k rs ∧ Sep w (rKn k p rs) S := by unfold rKIN; exact Iff.rfl
def kinZ (k : KinP) : List Value := kinCells k (List.replicate 17 ⟨false, nilInts⟩)
theorem rKIN_new {k : KinP} {p : Nat} {w0 w : World} (hk : k.Ok) (h : Know w0 w none' [rBlk p (kinZ k) 91] []) : Turn (rKIN k p) w0 w none' := by
  have h1 := h.pushMany (r := runRes ⟨false, nilInts⟩) (n := 17) ⟨_, rOw_p.2 ⟨Ow.nil w 3 elInt, rfl⟩, fun b hb => by cases hb⟩
  obtain ⟨hm, S, h3, h4⟩ := h1.turns
  refine ⟨hm, S, rKIN_p.2 ⟨List.replicate 17 ⟨false, nilInts⟩, ⟨hk, by simp, fun j r hr => ?_⟩, ?_⟩, h4⟩
  · have := List.eq_of_mem_replicate (List.mem_of_getElem? hr)
    subst this
    rfl
  · unfold rKn
    rw [List.map_replicate]
    exact h3

set_option maxHeartbeats 1000000 in
theorem kn_new {u a s : Int} {w : World} (hk : (⟨u, a, s⟩ : KinP).Ok) : Calls Tryd.prog 18 #[.int .i64 u, .int .i64 a, .int .i64 s] w fun e w' =>
    ∃ p, e = .returned (.tuple #[.pointer (some ⟨p, 0, none⟩), .int .i64 0]) ∧ Turn (rKIN ⟨u, a, s⟩ p) w w' none' := by
  have hK : Know w w none' [] [] := Know.start (L := []) w (by simp)
  have hk1 := hk
  obtain ⟨u1, u2, a1, a2, s1, s2⟩ := hk
  simp only at u1 u2 a1 a2 s1 s2
  have HK := Lib.hid hk1
  have i0 : ∀ W, (Instr.index 73 (Value.agg #[Value.int IntKind.i64 u, Value.int IntKind.i64 a, Value.int IntKind.i64 s]) (Value.int IntKind.i64 0)).run Tryd.prog W = .ok (.int .i64 u) W := fun W => by kernel_rfl
  have i1 : ∀ W, (Instr.index 73 (Value.agg #[Value.int IntKind.i64 u, Value.int IntKind.i64 a, Value.int IntKind.i64 s]) (Value.int IntKind.i64 1)).run Tryd.prog W = .ok (.int .i64 a) W := fun W => by kernel_rfl
  have i2 : ∀ W, (Instr.index 73 (Value.agg #[Value.int IntKind.i64 u, Value.int IntKind.i64 a, Value.int IntKind.i64 s]) (Value.int IntKind.i64 2)).run Tryd.prog W = .ok (.int .i64 s) W := fun W => by kernel_rfl
  clear hk1
  go_enter Tryd.func18, Tryd.ntmps18
  go_wp2_with (first
    | go_big_skip
    | go_big_skip
    | ((with_reducible refine wl_at (o := ⟨_, .load _ _, _, _, _, _⟩) ?_)
       first
         | refine wl_loadK hK rfl rfl rfl (scalT (by decide)) (h := ?_)
         | refine wl_loadSK hK rfl rfl rfl (aggT (by decide)) (h := ?_)
         | refine wl_loadA0 rfl rfl rfl (scalT (by decide)) (h := ?_)
         | refine wl_loadA rfl rfl rfl (scalT (by decide)) (h := ?_)
         | refine wl_loadSA rfl rfl rfl (aggT (by decide)) (h := ?_))
    | (with_reducible refine atEnd_mk (by kernel_rfl) ?_))
  go_loopg [9, 14] 3 (fun k r9 i wr => ∃ j : Nat, i = .int .i64 j ∧ k = 3 - j ∧ j ≤ 3 ∧ Know w wr none' [] [])
  case atStart => exact ⟨0, rfl, by omega, by omega, hK⟩
  case round =>
    clear hK
    obtain ⟨j, rfl, rfl, hj, hK⟩ := hrel
    by_cases h0 : j = 0
    · subst h0
      go_wp2_with (first
        | go_big_skip
        | go_big_skip
        | ((with_reducible refine wl_at (o := ⟨_, .load _ _, _, _, _, _⟩) ?_)
           first
             | refine wl_loadK hK rfl rfl rfl (scalT (by decide)) (h := ?_)
             | refine wl_loadSK hK rfl rfl rfl (aggT (by decide)) (h := ?_)
             | refine wl_loadA0 rfl rfl rfl (scalT (by decide)) (h := ?_)
             | refine wl_loadA rfl rfl rfl (scalT (by decide)) (h := ?_)
             | refine wl_loadSA rfl rfl rfl (aggT (by decide)) (h := ?_))
        | (with_reducible refine atEnd_mk (by kernel_rfl) ?_))
      go_roundg 2
      case measure => omega
      case rel => exact ⟨1, by go_num, rfl, by omega, hK⟩
    · by_cases h1 : j = 1
      · subst h1
        go_wp2_with (first
          | go_big_skip
          | go_big_skip
          | ((with_reducible refine wl_at (o := ⟨_, .load _ _, _, _, _, _⟩) ?_)
             first
               | refine wl_loadK hK rfl rfl rfl (scalT (by decide)) (h := ?_)
               | refine wl_loadSK hK rfl rfl rfl (aggT (by decide)) (h := ?_)
               | refine wl_loadA0 rfl rfl rfl (scalT (by decide)) (h := ?_)
               | refine wl_loadA rfl rfl rfl (scalT (by decide)) (h := ?_)
               | refine wl_loadSA rfl rfl rfl (aggT (by decide)) (h := ?_))
          | (with_reducible refine atEnd_mk (by kernel_rfl) ?_))
        go_roundg 1
        case measure => omega
        case rel => exact ⟨2, by go_num, rfl, by omega, hK⟩
      · by_cases h2 : j = 2
        · subst h2
          go_wp2_with (first
            | go_big_skip
            | go_big_skip
            | ((with_reducible refine wl_at (o := ⟨_, .load _ _, _, _, _, _⟩) ?_)
               first
                 | refine wl_loadK hK rfl rfl rfl (scalT (by decide)) (h := ?_)
                 | refine wl_loadSK hK rfl rfl rfl (aggT (by decide)) (h := ?_)
                 | refine wl_loadA0 rfl rfl rfl (scalT (by decide)) (h := ?_)
                 | refine wl_loadA rfl rfl rfl (scalT (by decide)) (h := ?_)
                 | refine wl_loadSA rfl rfl rfl (aggT (by decide)) (h := ?_))
            | (with_reducible refine atEnd_mk (by kernel_rfl) ?_))
          go_roundg 0
          case measure => omega
          case rel => exact ⟨3, by go_num, rfl, by omega, hK⟩
        · obtain rfl : j = 3 := by omega
          go_wp2_with (first
            | ((with_reducible refine wl_at (o := ⟨some 28, .box _ _, _, _, _, _⟩) ?_)
               go_must (refine wl_boxK (zs := kinZ ⟨u, a, s⟩) hK rfl rfl rfl (by kernel_rfl) ?_; clear hK; intro w28 b28 hK))
            | go_big_skip
            | go_big_skip
            | ((with_reducible refine wl_at (o := ⟨_, .load _ _, _, _, _, _⟩) ?_)
               first
                 | refine wl_loadK hK rfl rfl rfl (scalT (by decide)) (h := ?_)
                 | refine wl_loadSK hK rfl rfl rfl (aggT (by decide)) (h := ?_)
                 | refine wl_loadA0 rfl rfl rfl (scalT (by decide)) (h := ?_)
                 | refine wl_loadA rfl rfl rfl (scalT (by decide)) (h := ?_)
                 | refine wl_loadSA rfl rfl rfl (aggT (by decide)) (h := ?_))
            | (with_reducible refine atEnd_mk (by kernel_rfl) ?_))
          go_ret2
          exact ⟨b28, rfl, rKIN_new HK.out hK⟩
end Go.Proofs.YtcjpnlplibaffaaDoor
