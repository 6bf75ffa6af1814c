/- RadioPlays: the script's steps, and what both radios do, for any list. -/
import Derived.Test.YthbhbklbhfadnaaRad4
import Derived.Test.YthbhbklbhfadnaaRad5
namespace Go.Proofs.Ythbhbklbhfadnaa
open Go Go.Sk Go.RowKit Go.ChangeShapes

/-- A step of the script, as its cells hold it. -/
structure OpV where
  kind : Int
  i : Int
  ad : Option Addr
  n : Nat
  c : Nat
def elOp : El OpV := ⟨fun x => [.int .i64 x.kind, .int .i64 x.i, .slice x.ad x.n x.c], 3, fun _ => rfl, fun x v hv => by
  simp only [List.mem_cons, List.not_mem_nil, or_false] at hv
  rcases hv with rfl | rfl | rfl <;> rfl⟩

/-- What a step reads: its telegrams. -/
def OpReads (w : World) (x : OpV) : Prop := ∃ l : List Tele, Rd w elTele (.slice x.ad x.n x.c) l ∧ l.length ≤ maxLen

section
variable {H : Type} {enc : TypeId × Value → H} {w : World} {base : Nat} {spare : Nat → Bool} {held : Bool}
theorem open_op (n : Nat) (cs : List Value) (x : DataW H × List MemPlace) (h : DataW.trod enc Try.prog w base spare held n 49 cs = some x) : ∃ a : OpV, cs = elOp.cells a ∧ OpReads w a := by
  obtain ⟨xs, m, _, _, hl, hlen, hf⟩ := DataW.trod_struct Try.underlying49 h
  have hl3 : cs.length = 3 := by rw [hl]; kernel_rfl
  obtain ⟨a, b, c, rfl⟩ : ∃ a b c, cs = [a, b, c] := by
    match cs, hl3 with
    | [a, b, c], _ => exact ⟨a, b, c, rfl⟩
  have hx : xs.length = 3 := hlen
  have f0 := hf 0 _ rfl
  have f1 := hf 1 _ rfl
  have f2 := hf 2 _ rfl
  rw [List.getElem?_eq_getElem (by omega)] at f0 f1 f2
  have g0 : DataW.trod enc Try.prog w base spare held m 3 [a] = some xs[0] := f0
  have g1 : DataW.trod enc Try.prog w base spare held m 3 [b] = some xs[1] := f1
  have g2 : DataW.trod enc Try.prog w base spare held m 35 [c] = some xs[2] := f2
  obtain ⟨k, hk, _, _⟩ := DataW.trod_int Try.underlying3 g0
  obtain ⟨i, hi, _, _⟩ := DataW.trod_int Try.underlying3 g1
  obtain ⟨v, hv, l, hrd, hll, _⟩ := open_cs (E := elTele) (R := fun _ => True) (by kernel_rfl) (by decide) (open_plain (ks := teleKs) ⟨by kernel_rfl, by kernel_rfl, rfl, by decide, ofk_tele⟩) Try.underlying35 g2
  obtain ⟨ad, cap, rfl⟩ := hrd.vee
  injection hk with hk _
  injection hi with hi _
  injection hv with hv _
  subst hk hi hv
  exact ⟨⟨k, i, ad, l.length, cap⟩, rfl, l, hrd, hll⟩
end

theorem rd_mod {α : Type} {E : El α} {w w' : World} {v : Value} {l : List α} {F : Nat → Prop} (h : Rd w E v l) (m : Mod F w w') (hb : l ≠ [] → ∀ b, v.ownBlock = some b → ¬ F b) : Rd w' E v l := by
  by_cases h0 : l = []
  · subst h0
    obtain ⟨h1, ad, c, rfl, hle, _⟩ := h
    exact ⟨h1, ad, c, rfl, hle, .inl rfl⟩
  · exact h.mod m (hb h0)

/-! What a Hear answers, whatever is under way. -/
def heardT (l : List Tele) (i : Int) : Tele := (l[(i % (l.length : Int)).toNat]?).getD teleZ
def heardB (l : List Tele) : Bool := decide (0 < l.length)
def leftK (keep : Bool) (l : List Tele) (i : Int) : List Tele := if keep then l else l.eraseIdx (i % (l.length : Int)).toNat

theorem leftK_len (keep : Bool) (l : List Tele) (i : Int) : (leftK keep l i).length ≤ l.length := by
  unfold leftK
  split
  · omega
  · exact List.length_eraseIdx_le _ _

theorem place_of {l : List Tele} (i : Int) (h0 : 0 < l.length) : i % (l.length : Int) = ((i % (l.length : Int)).toNat : Nat) ∧ (i % (l.length : Int)).toNat < l.length := by
  have := Int.emod_nonneg i (b := (l.length : Int)) (by omega)
  have := Int.emod_lt_of_pos i (b := (l.length : Int)) (by omega)
  omega

theorem heard_of {l : List Tele} (i : Int) (h0 : 0 < l.length) : l[(i % (l.length : Int)).toNat]? = some (heardT l i) := by
  unfold heardT
  rw [List.getElem?_eq_getElem (place_of i h0).2]
  rfl

theorem radHear {p : Nat} {F : Nat → Prop} {l : List Tele} {w : World} (i : Int) (keep : Bool) (h : RadioAt w p F l) (hl : l.length ≤ 1024) :
    Calls Try.prog 12 #[.pointer (some ⟨p, 0, none⟩), .int .i64 i, .bool keep] w fun e w' =>
      e = .returned (.tuple #[.agg (heardT l i).cells.toArray, .bool (heardB l)]) ∧ RadioAt w' p F (leftK keep l i) ∧ Mod F w w' := by
  by_cases h0 : l = []
  · subst h0
    refine (hear0_calls i keep h).mono ?_
    rintro e w' ⟨rfl, hm⟩
    have h2 := h.mod hm fun _ _ h => h
    refine ⟨rfl, ?_, hm.mono fun _ h => h.elim⟩
    unfold leftK
    split <;> exact h2
  · have hp := List.length_pos_iff.2 h0
    cases keep with
    | true =>
      refine (hearK_calls i h hp hl (place_of i hp).1 (heard_of i hp)).mono ?_
      rintro e w' ⟨rfl, hm⟩
      exact ⟨by rw [heardB, decide_eq_true hp], h.mod hm fun _ _ h => h, hm.mono fun _ h => h.elim⟩
    | false =>
      refine (hearD_calls i h hp hl (place_of i hp).1 (heard_of i hp)).mono ?_
      rintro e w' ⟨rfl, h2, hm⟩
      exact ⟨by rw [heardB, decide_eq_true hp], h2, hm⟩

theorem radLose {p : Nat} {F : Nat → Prop} {l : List Tele} {w : World} (i : Int) (h : RadioAt w p F l) (hl : l.length ≤ 1024) :
    Calls Try.prog 14 #[.pointer (some ⟨p, 0, none⟩), .int .i64 i] w fun e w' => e = .returned (.bool (heardB l)) ∧ RadioAt w' p F (leftK false l i) ∧ Mod F w w' := by
  by_cases h0 : l = []
  · subst h0
    refine (lose0_calls i h).mono ?_
    rintro e w' ⟨rfl, hm⟩
    exact ⟨rfl, h.mod hm fun _ _ h => h, hm.mono fun _ h => h.elim⟩
  · have hp := List.length_pos_iff.2 h0
    refine (lose_calls i h hp hl (place_of i hp).1 (heard_of i hp)).mono ?_
    rintro e w' ⟨rfl, h2, hm⟩
    exact ⟨by rw [heardB, decide_eq_true hp], h2, hm⟩

theorem refHear {q : Nat} {G : Nat → Prop} {l : List Tele} {w : World} (i : Int) (keep : Bool) (h : RefAt w q G l) (hl : l.length ≤ 1024) :
    Calls Try.prog 16 #[.pointer (some ⟨q, 0, none⟩), .int .i64 i, .bool keep] w fun e w' =>
      e = .returned (.tuple #[.agg (heardT l i).cells.toArray, .bool (heardB l)]) ∧ RefAt w' q (grow G w w') (leftK keep l i) ∧ Mod G w w' := by
  by_cases h0 : l = []
  · subst h0
    refine (refHear0_calls i keep h).mono ?_
    rintro e w' ⟨rfl, hm⟩
    have h2 := (h.mod hm fun _ _ h => h).widen (F' := grow G w w') (fun _ h => .inl h) (grow_lt h.2.1 hm.size)
    refine ⟨rfl, ?_, hm.mono fun _ h => h.elim⟩
    unfold leftK
    split <;> exact h2
  · have hp := List.length_pos_iff.2 h0
    refine (refHear_calls i keep h hp hl (place_of i hp).1 (heard_of i hp)).mono ?_
    rintro e w' ⟨rfl, h2, hm⟩
    exact ⟨by rw [heardB, decide_eq_true hp], h2, hm⟩

theorem refLose {q : Nat} {G : Nat → Prop} {l : List Tele} {w : World} (i : Int) (h : RefAt w q G l) (hl : l.length ≤ 1024) :
    Calls Try.prog 17 #[.pointer (some ⟨q, 0, none⟩), .int .i64 i] w fun e w' => e = .returned (.bool (heardB l)) ∧ RefAt w' q (grow G w w') (leftK false l i) ∧ Mod G w w' := by
  by_cases h0 : l = []
  · subst h0
    refine (refLose0_calls i h).mono ?_
    rintro e w' ⟨rfl, rfl⟩
    exact ⟨rfl, h.widen (fun _ h => .inl h) (grow_lt h.2.1 (Nat.le_refl _)), Mod.refl _ _⟩
  · have hp := List.length_pos_iff.2 h0
    refine (refLose_calls i h hp hl (place_of i hp).1 (place_of i hp).2).mono ?_
    rintro e w' ⟨rfl, h2, hm⟩
    exact ⟨by rw [heardB, decide_eq_true hp], h2, hm⟩
end Go.Proofs.Ythbhbklbhfadnaa
