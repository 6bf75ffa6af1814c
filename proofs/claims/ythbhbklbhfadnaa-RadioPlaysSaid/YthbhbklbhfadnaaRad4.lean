/- The law's 'all': what goes through the radio, gathered. -/
import Derived.Test.YthbhbklbhfadnaaRad3
namespace Go.Proofs.Ythbhbklbhfadnaa
open Go Go.Sk Go.RowKit

set_option maxHeartbeats 1000000 in
theorem gather_calls {p : Nat} {F : Nat → Prop} {l : List Tele} {w : World} (most : Int) (hR : RadioAt w p F l) (hl : l.length ≤ 1024) (h1 : 1 ≤ most) :
    Calls Try.prog 18 #[.pointer (some ⟨p, 0, none⟩), .int .i64 most] w fun e w' =>
      ∃ v, e = .returned (.tuple #[v, .bool true]) ∧ Rd w' elTele v (l.take most.toNat) ∧ Mod none' w w' := by
  have hmf : ∀ (fn : Fn) (first cap : Array Value) (w : World), (Instr.makeFunc fn first cap).run Try.prog w = .ok (.func fn first cap) w := fun _ _ _ _ => rfl
  have hd : decide (most < 1) = false := decide_eq_false (by omega)
  go_enter Try.func18, Try.ntmps18
  go_wp2_with (first
    | (refine wl_at (o := ⟨some 3, _, _, _, _, _⟩) ?_
       go_must (refine wl_box (v := .int .i64 most) (zs := [.int .i64 most]) rfl rfl rfl rfl ?_
                intro w1 b1 h1' hB1 hm1))
    | (go_at_call 23
       go_must (refine (all_calls (p := p) _).mono ?_
                rintro e w2 ⟨b2, rfl, h2, hB2, hm2⟩))
    | (refine wl_at (o := ⟨some 12, _, _, _, _, _⟩) ?_
       go_must (refine wl_val (v := .bool false) (w' := w2) rfl (by kernel_rfl) ?_))
    | (refine wl_at (o := ⟨some 7, _, _, _, _, _⟩) ?_
       go_must (refine wl_alloc (z := .slice none 0 0) (zs := [.slice none 0 0]) rfl rfl (by kernel_rfl) rfl ?_
                intro w3 b3 h3 hB3 hm3))
    | (refine wl_at (o := ⟨some 8, _, _, _, _, _⟩) ?_
       go_must (refine wl_alloc (z := .bool false) (zs := [.bool false]) rfl rfl (by kernel_rfl) rfl ?_
                intro w4 b4 h4 hB4 hm4))
    | (refine wl_at (o := ⟨none, .store 4 _ _, _, _, _, _⟩) ?_
       go_must (refine wl_store (v := .bool true) rfl rfl rfl rfl (by kernel_rfl) rfl hB4 (by simp) ?_
                intro w5 hB5 hm5
                have h12 := hB1.lt
                have h22 := hB2.lt
                have h32 := hB3.lt
                have h13 := hm2.size
                have h14 := hm3.size
                have h15 := hm4.size
                have hB15 := (((hB1.mod hm2 fun h => h).mod hm3 fun h => h).mod hm4 fun h => h).mod hm5 fun h => by cases h; omega
                have hB25 := ((hB2.mod hm3 fun h => h).mod hm4 fun h => h).mod hm5 fun h => by cases h; omega
                have hB35 := (hB3.mod hm4 fun h => h).mod hm5 fun h => by cases h; omega
                have cm5 : w5.cell? ⟨b1, 0, none⟩ = some (.int .i64 most) := hB15.cell 0
                have hM5 : Mod none' w w5 := (((hm1.trans hm2).trans hm3).trans hm4).drop hm5 fun b hb => .inr (by cases hb; have := hm1.size; omega)
                have hR5 := hR.mod hM5 fun _ _ h => h
                have hA5 : AllAt w5 (fun b => b = b1 ∨ b = b3 ∨ b = b4) b4 b3 b1 most [] := ⟨hB5, hB15, .inr (.inr rfl), .inr (.inl rfl), .inl rfl, (by
                  have := hB15.lt; have := hB35.lt; have := hB5.lt
                  rintro b (h | h | h) <;> subst h <;> assumption), by omega, by omega, by omega, _, hB35, Ow.nil _ _ _, fun b hb => by cases hb⟩))
    | (go_at_call 25
       go_must (refine (all1_calls hR5 hB25 hA5 hl h1).mono ?_
                rintro e w6 ⟨rfl, hm6, F6, hA6⟩
                obtain ⟨vl, hl6, hO6, hv6⟩ := hA6.l
                have cl6 : w6.cell? ⟨b3, 0, none⟩ = some vl := hl6.cell 0
                have co6 : w6.cell? ⟨b4, 0, none⟩ = some (.bool true) := hA6.o.cell 0))
    | (refine wp_region_text (by kernel_rfl) (by kernel_rfl) ?_)
    | (refine atEnd_mk (by kernel_rfl) ?_))
  go_ret2
  refine ⟨_, rfl, hO6.rd, (hM5.drop hm6 fun b hb => .inr ?_).trans (Mod.drew _)⟩
  have := hm1.size
  rcases hb with h | h | h <;> subst h <;> omega
end Go.Proofs.Ythbhbklbhfadnaa
