/- Texts of mine that belong together: SkOwn, St9, Aw, Lw, SkOpen, Op, SkAny. -/
import Derived.Test.YtcklkojggpfbnaaDoorSkB
import Derived.Test.YtcklkojggpfbnaaDoorSt5Q
import Derived.Test.YtcklkojggpfbnaaDoorStB
import Derived.Test.YtcklkojggpfbnaaDoorStA
import Derived.Test.YtcklkojggpfbnaaDoorRows
import Derived.Lib.LaidTab
set_option linter.all false
/- What is there, found by its place among the things that are known. -/
namespace Go.Sk
open Go

theorem Ix.mem {M : List Res} {r : Res} {i : Nat} (h : Ix M r i) : r ∈ M := by
  induction h with
  | head => exact List.mem_cons_self
  | tail _ ih => exact List.mem_cons_of_mem _ ih
section
variable {w0 w : World} {F : Nat → Prop} {M L : List Res} {r : Res}
theorem Know.own {i : Nat} (h : Know w0 w F M L) (hi : Ix M r i := by repeat (first | exact Ix.head | apply Ix.tail)) : Has w r := h.get (List.mem_append_left _ hi.mem)
theorem Know.lent {i : Nat} (h : Know w0 w F M L) (hi : Ix L r i := by repeat (first | exact Ix.head | apply Ix.tail)) : Has w r := h.has hi.mem
/-- A call that turns one thing of one's own, found by its place. -/
theorem Know.callsI {P : Program} {f : FuncId} {args : Array Value} {r' : Res} {v : Value} {i : Nat} (h : Know w0 w F M L)
    (hc : ∀ S, r.p w S → Calls P f args w fun e w' => e = .returned v ∧ Turn r' w w' S) (hi : Ix M r i := by repeat (first | exact Ix.head | apply Ix.tail)) : Calls P f args w fun e w' => e = .returned v ∧ Know w0 w' F (M.set i r') L := by
  obtain ⟨S, h1, h2⟩ := h.stepI hi
  exact (hc S h1).mono fun e w' ⟨he, ht⟩ => ⟨he, h2 w' r' ht⟩
theorem Know.callsJ {P : Program} {f : FuncId} {args : Array Value} {r' : Res} {v : Value} {i : Nat} (h : Know w0 w F M L) (hi : Ix M r i)
    (hc : ∀ S, r.p w S → Calls P f args w fun e w' => e = .returned v ∧ Turn r' w w' S) : Calls P f args w fun e w' => e = .returned v ∧ Know w0 w' F (M.set i r') L := h.callsI hc hi
end
end Go.Sk

/- The stacks as one thing in memory, with what each method does to what it holds. -/
namespace Go.Proofs.YtcklkojggpfbnaaDoor
open Go Go.Sk Go.RowKit
set_option maxRecDepth 100000

/-- Where all bins are: by cell, by robot. -/
structure SM where
  f : Cell → List Int
  ld : List Int
def SM.liftE (c : ConfP) (m : SM) (i : Int) (x : Cell) : Int := Go.Proofs.YtcklkojggpfbnaaDoor.liftE c m.f m.ld i x
def SM.liftV (c : ConfP) (m : SM) (i : Int) (x : Cell) : Int := if m.liftE c i x = 0 then (m.f x).getLastD 0 else 0
def SM.lift (c : ConfP) (m : SM) (i : Int) (x : Cell) : SM := if m.liftE c i x = 0 then ⟨putF m.f x (m.f x).dropLast, m.ld.set i.toNat ((m.f x).getLastD 0)⟩ else m
def SM.dropE (c : ConfP) (m : SM) (i : Int) (x : Cell) : Int := Go.Proofs.YtcklkojggpfbnaaDoor.dropE c m.f m.ld i x
def SM.drop (c : ConfP) (m : SM) (i : Int) (x : Cell) : SM := if m.dropE c i x = 0 then ⟨putF m.f x (m.f x ++ [m.ld.getD i.toNat 0]), m.ld.set i.toNat 0⟩ else m
def SM.height (c : ConfP) (m : SM) (x : Cell) : Int := if openB c x then ((m.f x).length : Int) else -1
def SM.top (c : ConfP) (m : SM) (x : Cell) : Int := if openB c x then (m.f x).getLastD 0 else 0
def SM.load (m : SM) (i : Int) : Int := if 0 ≤ i ∧ i < m.ld.length then m.ld.getD i.toNat 0 else 0
def SM.start (c : ConfP) : SM := ⟨binsIn c.stacks, List.replicate c.robots.length 0⟩
def areaOf (c : ConfP) : Nat := (c.w * c.h).toNat
def SM.told (c : ConfP) (m : SM) : List StackP := toldTo c m.f (areaOf c)
/-- The first one, in order. -/
def findIn : List StackP → Int → Option (Cell × Int)
  | [], _ => none
  | s :: l, b => if b ∈ s.bins then some (s.at_, (s.bins.length : Int) - 1 - s.bins.idxOf b) else findIn l b
def SM.find (c : ConfP) (m : SM) (b : Int) : Option (Cell × Int) := findIn (m.told c) b
def findV (r : Option (Cell × Int)) : Value := match r with
  | some (x, n) => .tuple #[.agg x.cells.toArray, .int .i64 n, .bool true]
  | none => .tuple #[.agg (Cell.mk 0 0).cells.toArray, .int .i64 0, .bool false]
theorem findIn_append {l1 l2 : List StackP} {b : Int} (h : ∀ s ∈ l1, b ∉ s.bins) : findIn (l1 ++ l2) b = findIn l2 b := by
  induction l1 with
  | nil => rfl
  | cons s l1 ih =>
    rw [List.cons_append]
    show (if b ∈ s.bins then _ else findIn (l1 ++ l2) b) = _
    rw [if_neg (h s (by simp))]
    exact ih fun s hs => h s (by simp [hs])
theorem findIn_none {l : List StackP} {b : Int} (h : ∀ s ∈ l, b ∉ s.bins) : findIn l b = none := by
  have := findIn_append (l2 := []) h
  rwa [List.append_nil] at this
/-- What is so of it, always. -/
structure SMOk (c : ConfP) (m : SM) : Prop where
  may : MayP c
  short : ∀ x, (m.f x).length ≤ 1024
  robots : m.ld.length = c.robots.length
  closed : ∀ x, openB c x = false → m.f x = []
theorem SMOk.n8 {c : ConfP} {m : SM} (h : SMOk c m) : m.ld.length ≤ 8 := by rw [h.robots]; exact h.may.robots8
theorem area_eq {c : ConfP} (h : MayP c) : c.w * c.h = areaOf c ∧ areaOf c ≤ 256 := by
  have := (nums_iff.1 h.nums).area
  unfold areaOf
  omega
theorem told_len {c : ConfP} {m : SM} (h : MayP c) : (m.told c).length ≤ 256 := Nat.le_trans (toldTo_le _) (area_eq h).2

@[irreducible] def rSTK (c : ConfP) (p : Nat) (m : SM) : Res where
  p w S := ∃ s : StV, s.p = p ∧ s.loads = m.ld ∧ StOk c s m.f ∧ SMOk c m ∧ Sep w (rSt c s) S
  loc := by rintro w w' S ⟨s, h1, h2, h3, h4, h5⟩ he; exact ⟨s, h1, h2, h3, h4, h5.loc he⟩
  lt := by rintro w S ⟨s, _, _, _, _, h⟩; exact h.lt
theorem rSTK_p {c : ConfP} {p : Nat} {m : SM} {w : World} {S : Nat → Prop} : (rSTK c p m).p w S ↔ ∃ s : StV, s.p = p ∧ s.loads = m.ld ∧ StOk c s m.f ∧ SMOk c m ∧ Sep w (rSt c s) S := by unfold rSTK; exact Iff.rfl
theorem Has.stk {c : ConfP} {p : Nat} {m : SM} {w : World} (h : Has w (rSTK c p m)) : ∃ s : StV, s.p = p ∧ s.loads = m.ld ∧ StOk c s m.f ∧ SMOk c m ∧ ∀ r ∈ rSt c s, Has w r := by
  obtain ⟨S, h⟩ := h
  obtain ⟨s, h1, h2, h3, h4, h5⟩ := rSTK_p.1 h
  exact ⟨s, h1, h2, h3, h4, fun r hr => h5.has hr⟩
theorem stk_ok {c : ConfP} {p : Nat} {m : SM} {w : World} (h : Has w (rSTK c p m)) : SMOk c m := (Has.stk h).choose_spec.2.2.2.1

theorem start_ok {c : ConfP} (h : MayP c) : SMOk c (SM.start c) := by
  refine ⟨h, fun x => ?_, by simp [SM.start], fun x hx => ?_⟩
  · show (binsIn c.stacks x).length ≤ 1024
    unfold binsIn
    cases hf : c.stacks.find? fun s => decide (s.at_ = x) with
    | none => simp
    | some s =>
      have := (h.stacked s (List.mem_of_find?_eq_some hf)).2
      have := (nums_iff.1 h.nums).height
      simp only [Option.map_some, Option.getD_some]
      omega
  · show binsIn c.stacks x = []
    unfold binsIn
    cases hf : c.stacks.find? fun s => decide (s.at_ = x) with
    | none => simp
    | some s =>
      have h1 := (h.stacked s (List.mem_of_find?_eq_some hf)).1
      have h2 : s.at_ = x := by simpa using List.find?_some hf
      rw [h2] at h1
      unfold stackedB at h1
      rw [hx] at h1
      cases h1
theorem k_new {c : ConfV} {w : World} (hc : Has w (rConf c)) (hst : Has w stepsR) (hz : Sized c) (hwf : ∀ p ∈ c.robots.l, PoseWf p) : Calls Tryd.prog 11 #[.agg c.cells.toArray] w fun e w' =>
    (¬ MayP c.p ∧ e = .returned (.tuple #[.pointer none, .int .i64 5]) ∧ Mod none' w w') ∨
    (MayP c.p ∧ ∃ p, e = .returned (.tuple #[.pointer (some ⟨p, 0, none⟩), .int .i64 0]) ∧ Turn (rSTK c.p p (SM.start c.p)) w w' none') := by
  refine (snew_calls hc hst hz hwf).mono ?_
  rintro e w' (h | ⟨hm, s, rfl, hA, hr, hl, hm2, S', hS, hb⟩)
  · exact .inl h
  · refine .inr ⟨hm, s.p, rfl, hm2, S', rSTK_p.2 ⟨s, rfl, hl, ?_, start_ok hm, hS⟩, hb⟩
    have h1 := (start_ok hm)
    exact ⟨hm, by rw [hA]; exact (area_eq hm).1, hr, h1.short, by rw [hl, List.length_replicate]; exact hm.robots8⟩

theorem lift_ok {c : ConfP} {m : SM} {i : Int} {x : Cell} (h : SMOk c m) : SMOk c (m.lift c i x) := by
  unfold SM.lift
  split
  · rename_i he
    have ho : openB c x = true := by
      unfold SM.liftE Go.Proofs.YtcklkojggpfbnaaDoor.liftE at he
      by_cases hc : openB c x = true ∧ 0 ≤ i ∧ i < m.ld.length
      · exact hc.1
      · rw [if_neg hc] at he; omega
    refine ⟨h.may, fun y => ?_, by simp [h.robots], fun y hy => ?_⟩
    · show (putF m.f x _ y).length ≤ 1024
      unfold putF
      split
      · rw [List.length_dropLast]; have := h.short x; omega
      · exact h.short y
    · show putF m.f x _ y = []
      unfold putF
      rw [if_neg (fun e => by rw [e, ho] at hy; cases hy)]
      exact h.closed y hy
  · exact h
theorem drop_ok {c : ConfP} {m : SM} {i : Int} {x : Cell} (h : SMOk c m) : SMOk c (m.drop c i x) := by
  unfold SM.drop
  split
  · rename_i he
    unfold SM.dropE Go.Proofs.YtcklkojggpfbnaaDoor.dropE at he
    by_cases hc : openB c x = true ∧ 0 ≤ i ∧ i < m.ld.length
    · rw [if_pos hc] at he
      split at he
      · omega
      · split at he
        · omega
        · rename_i hr
          have ho := hc.1
          refine ⟨h.may, fun y => ?_, by simp [h.robots], fun y hy => ?_⟩
          · show (putF m.f x _ y).length ≤ 1024
            unfold putF
            split
            · rw [List.length_append]
              have h8 := (nums_iff.1 h.may.nums).height
              have : roomP c x ≤ 8 := by unfold roomP; split <;> (try split) <;> omega
              simp only [List.length_cons, List.length_nil]
              omega
            · exact h.short y
          · show putF m.f x _ y = []
            unfold putF
            rw [if_neg (fun e => by rw [e, ho] at hy; cases hy)]
            exact h.closed y hy
    · rw [if_neg hc] at he; omega
  · exact h

theorem k_lift {c : ConfP} {p : Nat} {m : SM} {i : Int} {x : Cell} {w : World} {S : Nat → Prop} (h : (rSTK c p m).p w S) : Calls Tryd.prog 21 #[.pointer (some ⟨p, 0, none⟩), .int .i64 i, .agg x.cells.toArray] w fun e w' =>
    e = .returned (.tuple #[.int .i64 (m.liftV c i x), .int .i64 (m.liftE c i x)]) ∧ Turn (rSTK c p (m.lift c i x)) w w' S := by
  obtain ⟨s, rfl, h2, h3, h4, h5⟩ := rSTK_p.1 h
  refine (s_lift (i := i) (x := x) (Know.startS h5 (by simp)) h3).mono ?_
  rintro e w' (⟨he, rfl, hm, S', k1, k2⟩ | ⟨he, s', rfl, j1, j2, j3, hm, S', k1, k2⟩)
  · rw [h2] at he
    have he' : m.liftE c i x ≠ 0 := he
    refine ⟨by unfold SM.liftV; rw [if_neg he', h2]; rfl, hm, S', ?_, k2⟩
    unfold SM.lift
    rw [if_neg he']
    exact rSTK_p.2 ⟨s, rfl, h2, h3, h4, k1⟩
  · rw [h2] at he
    have he' : m.liftE c i x = 0 := he
    refine ⟨by unfold SM.liftV; rw [if_pos he', he'], hm, S', rSTK_p.2 ⟨s', j2, ?_, ?_, lift_ok h4, k1⟩, k2⟩
    · unfold SM.lift
      rw [if_pos he', j3, h2]
    · unfold SM.lift
      rw [if_pos he']
      exact j1
theorem k_drop {c : ConfP} {p : Nat} {m : SM} {i : Int} {x : Cell} {w : World} {S : Nat → Prop} (h : (rSTK c p m).p w S) : Calls Tryd.prog 23 #[.pointer (some ⟨p, 0, none⟩), .int .i64 i, .agg x.cells.toArray] w fun e w' =>
    e = .returned (.int .i64 (m.dropE c i x)) ∧ Turn (rSTK c p (m.drop c i x)) w w' S := by
  obtain ⟨s, rfl, h2, h3, h4, h5⟩ := rSTK_p.1 h
  refine (s_drop (i := i) (x := x) (Know.startS h5 (by simp)) h3).mono ?_
  rintro e w' (⟨he, rfl, hm, S', k1, k2⟩ | ⟨he, s', rfl, j1, j2, j3, hm, S', k1, k2⟩)
  · rw [h2] at he
    have he' : m.dropE c i x ≠ 0 := he
    refine ⟨by rw [h2]; rfl, hm, S', ?_, k2⟩
    unfold SM.drop
    rw [if_neg he']
    exact rSTK_p.2 ⟨s, rfl, h2, h3, h4, k1⟩
  · rw [h2] at he
    have he' : m.dropE c i x = 0 := he
    refine ⟨by rw [he'], hm, S', rSTK_p.2 ⟨s', j2, ?_, ?_, drop_ok h4, k1⟩, k2⟩
    · unfold SM.drop
      rw [if_pos he', j3, h2]
    · unfold SM.drop
      rw [if_pos he', ← h2]
      exact j1
theorem k_height {c : ConfP} {p : Nat} {m : SM} {x : Cell} {w : World} (h : Has w (rSTK c p m)) : Calls Tryd.prog 29 #[.pointer (some ⟨p, 0, none⟩), .agg x.cells.toArray] w (Ret (.int .i64 (m.height c x)) w) := by
  obtain ⟨s, rfl, h2, h3, h4, h5⟩ := Has.stk h
  exact s_height (StAt.has h5) h3
theorem k_top {c : ConfP} {p : Nat} {m : SM} {x : Cell} {w : World} (h : Has w (rSTK c p m)) : Calls Tryd.prog 33 #[.pointer (some ⟨p, 0, none⟩), .agg x.cells.toArray] w (Ret (.int .i64 (m.top c x)) w) := by
  obtain ⟨s, rfl, h2, h3, h4, h5⟩ := Has.stk h
  exact s_top (StAt.has h5) h3
theorem k_load {c : ConfP} {p : Nat} {m : SM} {i : Int} {w : World} (h : Has w (rSTK c p m)) : Calls Tryd.prog 27 #[.pointer (some ⟨p, 0, none⟩), .int .i64 i] w (Ret (.int .i64 (m.load i)) w) := by
  obtain ⟨s, rfl, h2, h3, h4, h5⟩ := Has.stk h
  have := s_load (i := i) (StAt.has h5)
  rw [h2] at this
  exact this
theorem k_At {c : ConfP} {p : Nat} {m : SM} {x : Cell} {w : World} (h : Has w (rSTK c p m)) : Calls Tryd.prog 19 #[.pointer (some ⟨p, 0, none⟩), .agg x.cells.toArray] w fun e w' => ∃ ad n cap, e = .returned (.slice ad n cap) ∧ Turn (rOw 3 elInt (.slice ad n cap) (m.f x)) w w' none' := by
  obtain ⟨s, rfl, h2, h3, h4, h5⟩ := Has.stk h
  have := s_At (x := x) (StAt.has h5) h3
  by_cases ho : openB c x = true
  · rw [if_pos ho] at this; exact this
  · rw [if_neg ho] at this
    rw [h4.closed x (by simpa using ho)]
    exact this

/-- What is told. -/
@[irreducible] def rTold (v : Value) (l : List StackP) : Res where
  p w S := ∃ t : Sv StackV, v = t.val ∧ t.l.map StackV.p = l ∧ Sep w [rMany (t.l.map binRes), rOw 42 elStack t.val t.l] S
  loc := by rintro w w' S ⟨t, h1, h2, h5⟩ he; exact ⟨t, h1, h2, h5.loc he⟩
  lt := by rintro w S ⟨t, _, _, h⟩; exact h.lt
theorem rTold_p {v : Value} {l : List StackP} {w : World} {S : Nat → Prop} : (rTold v l).p w S ↔ ∃ t : Sv StackV, v = t.val ∧ t.l.map StackV.p = l ∧ Sep w [rMany (t.l.map binRes), rOw 42 elStack t.val t.l] S := by unfold rTold; exact Iff.rfl
theorem stacks_has {t : Sv StackV} {w : World} (h1 : Has w (rMany (t.l.map binRes))) (h2 : Has w (rOw 42 elStack t.val t.l)) : Has w (rStacks t) := by
  unfold rStacks
  refine Has.two.2 ⟨h2.ord.has, Has.all.2 fun r hr => ?_⟩
  obtain ⟨x, hx, rfl⟩ := List.mem_map.1 hr
  have := rMany_has h1 (binRes x) (List.mem_map_of_mem hx)
  unfold binRes at this
  exact this.ord.has
theorem Has.told {v : Value} {l : List StackP} {w : World} (h : Has w (rTold v l)) : ∃ t : Sv StackV, v = t.val ∧ t.l.map StackV.p = l ∧ Has w (rStacks t) := by
  obtain ⟨S, h⟩ := h
  obtain ⟨t, h1, h2, h3⟩ := rTold_p.1 h
  exact ⟨t, h1, h2, stacks_has (h3.has (by simp)) (h3.has (by simp))⟩
theorem k_told {c : ConfP} {p : Nat} {m : SM} {w : World} {most : Int} (h : Has w (rSTK c p m)) (h1 : 1 ≤ most) : Calls Tryd.prog 15 #[.pointer (some ⟨p, 0, none⟩), .int .i64 most] w fun e w' =>
    ∃ ad n k, e = .returned (.slice ad n k) ∧ n = ((m.told c).take most.toNat).length ∧ Turn (rTold (.slice ad n k) ((m.told c).take most.toNat)) w w' none' := by
  obtain ⟨s, rfl, h2, h3, h4, h5⟩ := Has.stk h
  refine (told_calls (most := most) h5 h3 h1).mono ?_
  rintro e w' ⟨t, rfl, ht, hm, S', k1, k2⟩
  have hA : areaOf c = s.A := by
    have h1 := (area_eq h3.may).1
    have h2 := h3.A
    rw [h1] at h2
    exact Int.ofNat.inj h2
  have e1 : (m.told c).take most.toNat = t.l.map StackV.p := by unfold SM.told; rw [ht, hA]
  refine ⟨_, _, _, rfl, ?_, hm, S', rTold_p.2 ⟨t, rfl, e1.symm, k1⟩, k2⟩
  rw [e1, List.length_map]
open Classical in
theorem k_same {v v' : Value} {l l' : List StackP} {w : World} (h1 : Has w (rTold v l)) (h2 : Has w (rTold v' l')) (hl : l.length ≤ 1048576) (hb : ∀ x ∈ l, x.bins.length ≤ 1048576) : Calls Tryd.prog 17 #[v, v'] w (Ret (.bool (decide (l = l'))) w) := by
  obtain ⟨t, rfl, rfl, h3⟩ := Has.told h1
  obtain ⟨t', rfl, rfl, h4⟩ := Has.told h2
  exact sameStacks_calls h3 h4 (by simpa using hl) fun x hx => hb x.p (List.mem_map_of_mem hx)
theorem told_short {c : ConfP} {m : SM} (h : SMOk c m) : ∀ x ∈ m.told c, x.bins.length ≤ 1048576 := by
  intro x hx
  unfold SM.told toldTo at hx
  obtain ⟨k, _, hk⟩ := List.mem_filterMap.1 hx
  unfold tellOne at hk
  split at hk
  · injection hk with hk
    subst hk
    have := h.short (cellAt c.w k)
    show (m.f _).length ≤ 1048576
    omega
  · cases hk
theorem idx_first' {l : List Int} {x : Int} {j : Nat} (h1 : ∀ k, k < j → l[k]? ≠ some x) (h2 : l[j]? = some x) : l.idxOf x = j := by
  induction l generalizing j with
  | nil => simp at h2
  | cons y l ih =>
    rw [List.idxOf_cons]
    cases j with
    | zero =>
      have : y = x := by simpa using h2
      simp [this]
    | succ j =>
      have h0 : y ≠ x := by have := h1 0 (by omega); simpa using this
      have : (y == x) = false := by simpa using h0
      rw [this]
      have := ih (j := j) (fun k hk => by have := h1 (k + 1) (by omega); simpa using this) (by simpa using h2)
      simp [this]
theorem k_find {c : ConfP} {p : Nat} {m : SM} {b : Int} {w : World} (h : Has w (rSTK c p m)) : Calls Tryd.prog 25 #[.pointer (some ⟨p, 0, none⟩), .int .i64 b] w (Ret (findV (m.find c b)) w) := by
  obtain ⟨s, rfl, h2, h3, h4, h5⟩ := Has.stk h
  refine (s_find (bin := b) h5 h3).mono ?_
  have hA : areaOf c = s.A := by
    have h1 := (area_eq h3.may).1
    have h2 := h3.A
    rw [h1] at h2
    exact Int.ofNat.inj h2
  have hrow : ∀ n r, s.rows[n]? = some r → r.l = m.f (cellAt c.w n) ∧ n < s.A := by
    intro n r hr
    have hlen : s.rows.length = s.A := by have := congrArg List.length h3.rows; rw [List.length_map, gridL_len] at this; exact this
    have hn : n < s.A := by rw [← hlen]; exact (List.getElem?_eq_some_iff.1 hr).1
    have := gridL_at (f := m.f) (w := c.w) hn
    rw [← h3.rows, List.getElem?_map, hr] at this
    injection this with this
    exact ⟨this, hn⟩
  have hget : ∀ n, n < s.A → ∃ r, s.rows[n]? = some r := fun n hn => by
    have hlen : s.rows.length = s.A := by have := congrArg List.length h3.rows; rw [List.length_map, gridL_len] at this; exact this
    exact ⟨_, List.getElem?_eq_getElem (by omega)⟩
  rintro e w' ⟨⟨n, i, row, k1, k2, k3, k4, rfl⟩ | ⟨k1, rfl⟩, hm⟩
  · refine ⟨?_, hm⟩
    obtain ⟨hr, hn⟩ := hrow n row k1
    have hb : b ∈ row.l := List.mem_of_getElem? k2
    have ho : openB c (cellAt c.w n) = true := by
      cases ho : openB c (cellAt c.w n) with
      | true => rfl
      | false =>
        rw [hr, h4.closed _ ho] at hb
        cases hb
    have hs := toldTo_succ (c := c) (f := m.f) n
    obtain ⟨rest, hrest⟩ := toldTo_pre (c := c) (f := m.f) (m := n + 1) (n := s.A) hn
    have hf : m.find c b = some (cellAt c.w n, (row.l.length : Int) - 1 - i) := by
      unfold SM.find SM.told
      rw [hA, ← hrest, hs, List.append_assoc]
      rw [findIn_append]
      · unfold tellOne
        rw [if_pos ho]
        simp only [Option.toList_some, List.cons_append, List.nil_append]
        show (if b ∈ m.f (cellAt c.w n) then _ else findIn rest b) = _
        rw [if_pos (by show b ∈ m.f _; rw [← hr]; exact hb)]
        show some (cellAt c.w n, ((m.f (cellAt c.w n)).length : Int) - 1 - ((m.f (cellAt c.w n)).idxOf b : Int)) = _
        rw [← hr, idx_first' k4 k2]
      · intro st hst hbs
        unfold toldTo at hst
        obtain ⟨k, hk, hk2⟩ := List.mem_filterMap.1 hst
        unfold tellOne at hk2
        split at hk2
        · injection hk2 with hk2
          subst hk2
          obtain ⟨r, hr2⟩ := hget k (by have := List.mem_range.1 hk; omega)
          exact k3 k r (List.mem_range.1 hk) hr2 (by rw [(hrow k r hr2).1]; exact hbs)
        · cases hk2
    rw [hf]
    rfl
  · refine ⟨?_, hm⟩
    have hf : m.find c b = none := by
      unfold SM.find SM.told
      refine findIn_none fun st hst hbs => ?_
      unfold toldTo at hst
      obtain ⟨k, hk, hk2⟩ := List.mem_filterMap.1 hst
      unfold tellOne at hk2
      split at hk2
      · injection hk2 with hk2
        subst hk2
        obtain ⟨r, hr2⟩ := hget k (by have := List.mem_range.1 hk; omega)
        exact k1 r (List.mem_of_getElem? hr2) (by rw [(hrow k r hr2).1]; exact hbs)
      · cases hk2
    rw [hf]
    rfl
end Go.Proofs.YtcklkojggpfbnaaDoor

/- awake: a bin is lifted. -/
namespace Go.Proofs.YtcklkojggpfbnaaDoor
open Go Go.Sk Go.RowKit
set_option maxRecDepth 100000

def awkC (r s b : Option Addr) : ConfV := ⟨3, 2, 2, ⟨none, [], 0⟩, ⟨none, [], 0⟩, ⟨r, [⟨⟨0, 1⟩, false⟩], 1⟩, ⟨s, [⟨⟨0, 0⟩, ⟨b, [7, 8], 2⟩⟩], 1⟩, 1, 1, 1, 1, 1, 1, 1, 1, false⟩
def awkP : ConfP := ⟨3, 2, 2, [], [], [⟨⟨0, 1⟩, false⟩], [⟨⟨0, 0⟩, [7, 8]⟩], 1, 1, 1, 1, 1, 1, 1, 1, false⟩
theorem awk_may : MayP awkP where
  nums := by decide +kernel
  ports8 := by decide
  robots8 := by decide
  inside := by decide
  apart := by decide
  beside := by decide +kernel
  fits := by decide +kernel
  homes1 := by decide +kernel
  clear := by decide +kernel
  stacked := by decide +kernel
  stacks1 := by decide
  bins := by decide +kernel
  bins1 := by decide +kernel
  bins512 := by decide
def awkM : SM := SM.start awkP
theorem awk_find : findV (awkM.find awkP 7) = .tuple #[.agg (Cell.mk 0 0).cells.toArray, .int .i64 1, .bool true] := by
  have : awkM.find awkP 7 = some (⟨0, 0⟩, 1) := by decide +kernel
  rw [this]
  rfl
theorem awk_liftV : awkM.liftV awkP 0 ⟨0, 0⟩ = 8 := by decide +kernel
theorem awk_liftE : awkM.liftE awkP 0 ⟨0, 0⟩ = 0 := by decide +kernel
theorem awk_top : (awkM.lift awkP 0 ⟨0, 0⟩).top awkP ⟨0, 0⟩ = 7 := by decide +kernel
theorem awk_load : (awkM.lift awkP 0 ⟨0, 0⟩).load 0 = 8 := by decide +kernel

theorem awk_has {r s b : Option Addr} {w : World} (h1 : Has w (rOw 77 elPose (.slice r 1 1) [(⟨⟨0, 1⟩, false⟩ : Pose)])) (h2 : Has w (rOw 3 elInt (.slice b 2 2) [7, 8])) (h3 : Has w (rOw 42 elStack (.slice s 1 1) [(⟨⟨0, 0⟩, ⟨b, [7, 8], 2⟩⟩ : StackV)])) : Has w (rConf (awkC r s b)) := by
  refine Has.all.2 fun x hx => ?_
  simp only [List.mem_cons, List.not_mem_nil, or_false] at hx
  rcases hx with rfl | rfl | rfl | rfl
  · exact (Rd.nil w elCell).has
  · exact (Rd.nil w elCell).has
  · exact h1.ord.has
  · refine Has.two.2 ⟨h3.ord.has, Has.all.2 fun x hx => ?_⟩
    obtain ⟨y, hy, rfl⟩ := List.mem_map.1 hx
    simp only [awkC, List.mem_singleton] at hy
    subst hy
    exact h2.ord.has
theorem awk_sized (r s b : Option Addr) : Sized (awkC r s b) := by
  refine ⟨by simp [awkC], by simp [awkC], by simp [awkC], by simp [awkC], fun x hx => ?_⟩
  simp only [awkC, List.mem_singleton] at hx
  subst hx
  simp
theorem awk_wf (r s b : Option Addr) : ∀ p ∈ (awkC r s b).robots.l, PoseWf p := by
  intro x hx
  simp only [awkC, List.mem_singleton] at hx
  subst hx
  exact ⟨by decide, by decide⟩

set_option maxHeartbeats 4000000 in
theorem awake_calls {w : World} (hst : Has w stepsR) : Calls Tryd.prog 14 #[] w (Ret (.bool true) w) := by
  have hK : Know w w none' [] [stepsR] := Know.start (L := [stepsR]) w (by simpa using hst)
  go_enter Tryd.func14, Tryd.ntmps14
  go_wp2_with (first
    | ((with_reducible refine wl_at (o := ⟨some 11, _, _, _, _, _⟩) ?_); go_must (refine wl_buildK 77 elPose [(⟨⟨0, 1⟩, false⟩ : Pose)] hK rfl rfl (fun W => by kernel_rfl) rfl (by decide) ?_; clear hK; intro ad11 w11 hK))
    | ((with_reducible refine wl_at (o := ⟨some 12, _, _, _, _, _⟩) ?_); go_must (refine wl_buildK 3 elInt [7, 8] hK rfl rfl (fun W => by kernel_rfl) rfl (by decide) ?_; clear hK; intro ad12 w12 hK))
    | ((with_reducible refine wl_at (o := ⟨some 14, _, _, _, _, _⟩) ?_); go_must (refine wl_buildK 42 elStack [(⟨⟨0, 0⟩, ⟨ad12, [7, 8], 2⟩⟩ : StackV)] hK rfl rfl (fun W => by kernel_rfl) rfl (by decide) ?_; clear hK; intro ad14 w14 hK))
    | ((with_reducible refine wl_at (o := ⟨some 1, .alloc _, _, _, _, _⟩) ?_)
       go_must (refine wl_allocK (z := .agg (confZ).toArray) (zs := confZ) hK rfl rfl (by kernel_rfl) rfl ?_; clear hK; intro w1 b1 hK))
    | ((with_reducible refine wl_at (o := ⟨none, .store 26 _ _, _, _, _, _⟩) ?_)
       go_must (refine wl_storeWK (vs := ConfV.cells (awkC ad11 ad14 ad12)) hK rfl rfl rfl rfl (aggS (by decide)) (conf_one _) (h := ?_); clear hK; intro w' hK; simp only [List.set_cons_zero, List.set_cons_succ] at hK))
    | (go_at_call 11; refine (k_new (c := awkC ad11 ad14 ad12) (awk_has hK.own hK.own hK.own) hK.lent (awk_sized _ _ _) (awk_wf _ _ _)).mono ?_; rintro e w' (⟨hn, _, _⟩ | ⟨_, p, rfl, hT⟩); all_goals first | (exact absurd awk_may hn) | (replace hK := hK.push1 hT; clear hT))
    | (go_at_call 25; go_must (refine (hK.quiet (by have := k_find (c := awkP) (m := awkM) (p := p) (b := 7) hK.own; rw [awk_find] at this; exact this)).mono ?_; clear hK; rintro e w' ⟨rfl, hK⟩))
    | (go_at_call 21; go_must (refine (hK.callsI (fun S hS => by have := k_lift (c := awkP) (m := awkM) (p := p) (i := 0) (x := ⟨0, 0⟩) hS; rw [awk_liftV, awk_liftE] at this; exact this)).mono ?_; clear hK; rintro e w' ⟨rfl, hK⟩; simp only [List.set_cons_zero, List.set_cons_succ] at hK))
    | (go_at_call 33; go_must (refine (hK.quiet (by have := k_top (c := awkP) (m := awkM.lift awkP 0 ⟨0, 0⟩) (p := p) (x := ⟨0, 0⟩) hK.own; rw [awk_top] at this; exact this)).mono ?_; clear hK; rintro e w' ⟨rfl, hK⟩))
    | (go_at_call 27; go_must (refine (hK.quiet (by have := k_load (c := awkP) (m := awkM.lift awkP 0 ⟨0, 0⟩) (p := p) (i := 0) hK.own; rw [awk_load] at this; exact this)).mono ?_; clear hK; rintro e w' ⟨rfl, hK⟩))
    | ((with_reducible refine wl_at (o := ⟨some 4, .alloc _, _, _, _, _⟩) ?_)
       go_must (refine wl_allocK (z := .agg ([.int .i64 0, .int .i64 0]).toArray) (zs := [.int .i64 0, .int .i64 0]) hK rfl rfl (by kernel_rfl) rfl ?_; clear hK; intro w4 b4 hK))
    | ((with_reducible refine wl_at (o := ⟨none, .store 39 _ _, _, _, _, _⟩) ?_)
       go_must (refine wl_storeWK (vs := Cell.cells ⟨0, 0⟩) hK rfl rfl rfl rfl (aggS (by decide)) (elCell.one _) (h := ?_); clear hK; intro w' hK; simp only [List.set_cons_zero, List.set_cons_succ] at hK))
    | ((with_reducible refine wl_at (o := ⟨some 41, _, _, _, _, _⟩) ?_)
       go_must (refine wl_eqlC (c := ⟨0, 0⟩) (d := ⟨0, 0⟩) cellEq rfl rfl rfl rfl ?_))
    | go_big_skip
    | go_big_skip
    | ((with_reducible refine wl_at (o := ⟨_, .load _ _, _, _, _, _⟩) ?_)
       first
         | refine wl_loadK hK rfl rfl rfl (scalT (by decide)) (h := ?_)
         | refine wl_loadSK hK rfl rfl rfl (aggT (by decide)) (h := ?_)
         | refine wl_loadA0 rfl rfl rfl (scalT (by decide)) (h := ?_)
         | refine wl_loadA rfl rfl rfl (scalT (by decide)) (h := ?_)
         | refine wl_loadSA rfl rfl rfl (aggT (by decide)) (h := ?_))
    | (with_reducible refine atEnd_mk (by kernel_rfl) ?_))
  go_ret
  exact ⟨rfl, hK.mod⟩
end Go.Proofs.YtcklkojggpfbnaaDoor

/- What the laws on stacks share: the config's copy, and the stacks that are made of it. -/
namespace Go.Proofs.YtcklkojggpfbnaaDoor
open Go Go.Sk Go.RowKit
set_option maxRecDepth 100000

/-- A config's copy. -/
def rDup (d : ConfV) : Res := rMany (rOwnConf d)
theorem Upto.sized {c : ConfV} (h : Upto c) : Sized c :=
  ⟨by have := h.blocked; omega, by have := h.ports; omega, by have := h.robots; omega, by have := h.stacks; omega, fun x hx => by have := h.bins x hx; omega⟩
theorem upto_p {c d : ConfV} (h : d.p = c.p) (hu : Upto c) : Upto d := by
  have h1 : d.blocked.l = c.blocked.l := congrArg ConfP.blocked h
  have h2 : d.ports.l = c.ports.l := congrArg ConfP.ports h
  have h3 : d.robots.l = c.robots.l := congrArg ConfP.robots h
  have h4 : d.stacks.l.map StackV.p = c.stacks.l.map StackV.p := congrArg ConfP.stacks h
  refine ⟨by rw [h1]; exact hu.blocked, by rw [h2]; exact hu.ports, by rw [h3]; exact hu.robots, ?_, fun x hx => ?_⟩
  · have := congrArg List.length h4
    rw [List.length_map, List.length_map] at this
    rw [this]; exact hu.stacks
  · have h5 : x.p ∈ c.stacks.l.map StackV.p := by rw [← h4]; exact List.mem_map_of_mem hx
    obtain ⟨y, hy, he⟩ := List.mem_map.1 h5
    have h6 : y.bins.l = x.bins.l := congrArg StackP.bins he
    rw [← h6]; exact hu.bins y hy
theorem dup_calls {c : ConfV} {w : World} (h : Has w (rConf c)) (hu : Upto c) : Calls Tryd.prog 10 #[.agg c.cells.toArray] w fun e w' => ∃ d : ConfV, e = .returned (.agg d.cells.toArray) ∧ d.p = c.p ∧ Turn (rDup d) w w' none' := by
  refine (copyConf_calls h hu).mono ?_
  rintro e w' ⟨d, rfl, hd, hm, S', k1, k2⟩
  exact ⟨d, rfl, hd, hm, S', rMany_p.2 k1, k2⟩
theorem dup_has {d : ConfV} {w : World} (h : Has w (rDup d)) : Has w (rConf d) := by
  have g := rMany_has h
  refine Has.all.2 fun r hr => ?_
  simp only [List.mem_cons, List.not_mem_nil, or_false] at hr
  rcases hr with rfl | rfl | rfl | rfl
  · exact (g (rOw 39 elCell d.blocked.val d.blocked.l) (by simp [rOwnConf])).ord.has
  · exact (g (rOw 39 elCell d.ports.val d.ports.l) (by simp [rOwnConf])).ord.has
  · exact (g (rOw 77 elPose d.robots.val d.robots.l) (by simp [rOwnConf])).ord.has
  · exact stacks_has (g _ (by simp [rOwnConf])) (g _ (by simp [rOwnConf]))
theorem kn_new {c d : ConfV} {w : World} (hd : d.p = c.p) (hu : Upto c) (hwf : ∀ p ∈ c.robots.l, PoseWf p) (h : Has w (rDup d)) (hst : Has w stepsR) : Calls Tryd.prog 11 #[.agg d.cells.toArray] w fun e w' =>
    (¬ MayP c.p ∧ e = .returned (.tuple #[.pointer none, .int .i64 5]) ∧ Mod none' w w') ∨
    (MayP c.p ∧ ∃ p, e = .returned (.tuple #[.pointer (some ⟨p, 0, none⟩), .int .i64 0]) ∧ Turn (rSTK c.p p (SM.start c.p)) w w' none') := by
  have h3 : d.robots.l = c.robots.l := congrArg ConfP.robots hd
  have := k_new (c := d) (dup_has h) hst (upto_p hd hu).sized (by rw [h3]; exact hwf)
  rw [hd] at this
  exact this
theorem kn_yes {c d : ConfV} {w : World} (hm : MayP c.p) (hd : d.p = c.p) (hu : Upto c) (hwf : ∀ p ∈ c.robots.l, PoseWf p) (h : Has w (rDup d)) (hst : Has w stepsR) : Calls Tryd.prog 11 #[.agg d.cells.toArray] w fun e w' =>
    ∃ p, e = .returned (.tuple #[.pointer (some ⟨p, 0, none⟩), .int .i64 0]) ∧ Turn (rSTK c.p p (SM.start c.p)) w w' none' :=
  (kn_new hd hu hwf h hst).mono fun e w' hp => hp.elim (fun hn => absurd hm hn.1) fun hp => hp.2
theorem kn_no {c d : ConfV} {w : World} (hm : ¬ MayP c.p) (hd : d.p = c.p) (hu : Upto c) (hwf : ∀ p ∈ c.robots.l, PoseWf p) (h : Has w (rDup d)) (hst : Has w stepsR) : Calls Tryd.prog 11 #[.agg d.cells.toArray] w
    (Ret (.tuple #[.pointer none, .int .i64 5]) w) :=
  (kn_new hd hu hwf h hst).mono fun e w' hp => hp.elim (fun hn => hn.2) fun hp => absurd hp.1 hm
open Classical in
theorem kn_small {c : ConfV} {b : Bool} {w : World} (hb : decide (smallB c.p) = b) (hu : Upto c) (hc : Has w (rConf c)) : Calls Tryd.prog 12 #[.agg c.cells.toArray] w (Ret (.bool b) w) := by
  subst hb
  have := small_calls hc hu.sized
  exact this
theorem kn_may {c : ConfV} {b : Bool} {w : World} (hb : mayB c.p = b) (hu : Upto c) (hc : Has w (rConf c)) : Calls Tryd.prog 13 #[.agg c.cells.toArray] w (Ret (.bool b) w) := by
  subst hb
  exact ref_may hc hu.sized
theorem kn_told {c : ConfP} {p : Nat} {m : SM} {w : World} (h : Has w (rSTK c p m)) : Calls Tryd.prog 15 #[.pointer (some ⟨p, 0, none⟩), .int .i64 1000] w fun e w' =>
    ∃ ad n k, e = .returned (.slice ad n k) ∧ n = (m.told c).length ∧ Turn (rTold (.slice ad n k) (m.told c)) w w' none' := by
  have := k_told (most := 1000) h (by decide)
  rw [List.take_of_length_le (by have := told_len (m := m) (stk_ok h).may; show _ ≤ 1000; omega)] at this
  exact this
theorem kn_toldX {c : ConfP} {p : Nat} {m : SM} {w : World} (h : Has w (rSTK c p m)) : Calls Tryd.prog 15 #[.pointer (some ⟨p, 0, none⟩), .int .i64 1000] w fun e w' =>
    ∃ t : Sv StackV, e = .returned t.val ∧ t.l.map StackV.p = m.told c ∧ Turns [rMany (t.l.map binRes), rOw 42 elStack t.val t.l] w w' none' := by
  refine (kn_told h).mono ?_
  rintro e w' ⟨ad, n, k, rfl, _, hm, S', k1, k2⟩
  obtain ⟨t, h1, h2, h3⟩ := rTold_p.1 k1
  exact ⟨t, by rw [h1], h2, hm, S', h3, k2⟩
open Classical in
theorem kn_same {c : ConfP} {m : SM} {v v' : Value} {l : List StackP} {w : World} {b : Bool} (hm : SMOk c m) (hb : decide (m.told c = l) = b) (h1 : Has w (rTold v (m.told c))) (h2 : Has w (rTold v' l)) : Calls Tryd.prog 17 #[v, v'] w (Ret (.bool b) w) := by
  subst hb
  exact k_same h1 h2 (by have := told_len (m := m) hm.may; omega) (told_short hm)
open Classical in
theorem may_ways (c : ConfP) : (¬ MayP c ∧ mayB c = false ∧ decide (smallB c) = false) ∨ (MayP c ∧ mayB c = true ∧ decide (smallB c) = false) ∨ (MayP c ∧ mayB c = true ∧ decide (smallB c) = true ∧ smallB c) := by
  by_cases h : MayP c
  · by_cases hs : smallB c
    · exact .inr (.inr ⟨h, mayB_true.2 h, decide_eq_true hs, hs⟩)
    · exact .inr (.inl ⟨h, mayB_true.2 h, decide_eq_false hs⟩)
  · exact .inl ⟨h, mayB_false h, decide_eq_false fun hs => h hs.2.2.2.2.2.2.2⟩
theorem k_liftX {c : ConfP} {p : Nat} {m m' : SM} {i E V : Int} {x : Cell} {w : World} {S : Nat → Prop} (hE : m.liftE c i x = E) (hV : m.liftV c i x = V) (hm : m.lift c i x = m') (h : (rSTK c p m).p w S) : Calls Tryd.prog 21 #[.pointer (some ⟨p, 0, none⟩), .int .i64 i, .agg x.cells.toArray] w fun e w' =>
    e = .returned (.tuple #[.int .i64 V, .int .i64 E]) ∧ Turn (rSTK c p m') w w' S := by
  subst hE hV hm
  exact k_lift h
theorem k_dropX {c : ConfP} {p : Nat} {m m' : SM} {i E : Int} {x : Cell} {w : World} {S : Nat → Prop} (hE : m.dropE c i x = E) (hm : m.drop c i x = m') (h : (rSTK c p m).p w S) : Calls Tryd.prog 23 #[.pointer (some ⟨p, 0, none⟩), .int .i64 i, .agg x.cells.toArray] w fun e w' =>
    e = .returned (.int .i64 E) ∧ Turn (rSTK c p m') w w' S := by
  subst hE hm
  exact k_drop h
theorem k_heightX {c : ConfP} {p : Nat} {m : SM} {x : Cell} {w : World} {v : Int} (hv : m.height c x = v) (h : Has w (rSTK c p m)) : Calls Tryd.prog 29 #[.pointer (some ⟨p, 0, none⟩), .agg x.cells.toArray] w (Ret (.int .i64 v) w) := by
  subst hv
  exact k_height h
theorem k_topX {c : ConfP} {p : Nat} {m : SM} {x : Cell} {w : World} {v : Int} (hv : m.top c x = v) (h : Has w (rSTK c p m)) : Calls Tryd.prog 33 #[.pointer (some ⟨p, 0, none⟩), .agg x.cells.toArray] w (Ret (.int .i64 v) w) := by
  subst hv
  exact k_top h
theorem k_loadX {c : ConfP} {p : Nat} {m : SM} {i : Int} {w : World} {v : Int} (hv : m.load i = v) (h : Has w (rSTK c p m)) : Calls Tryd.prog 27 #[.pointer (some ⟨p, 0, none⟩), .int .i64 i] w (Ret (.int .i64 v) w) := by
  subst hv
  exact k_load h
theorem k_findX {c : ConfP} {p : Nat} {m : SM} {b : Int} {w : World} {r : Option (Cell × Int)} (hr : m.find c b = r) (h : Has w (rSTK c p m)) : Calls Tryd.prog 25 #[.pointer (some ⟨p, 0, none⟩), .int .i64 b] w (Ret (findV r) w) := by
  subst hr
  exact k_find h
/-! the same, the facts found among what is at hand -/
theorem k_liftY {c : ConfP} {p : Nat} {m m' : SM} {i E V : Int} {x : Cell} {w : World} {S : Nat → Prop} (h : (rSTK c p m).p w S) (hE : Hid (m.liftE c i x = E) := by assumption) (hV : Hid (m.liftV c i x = V) := by assumption) (hm : Hid (m.lift c i x = m') := by assumption) : Calls Tryd.prog 21 #[.pointer (some ⟨p, 0, none⟩), .int .i64 i, .agg x.cells.toArray] w fun e w' =>
    e = .returned (.tuple #[.int .i64 V, .int .i64 E]) ∧ Turn (rSTK c p m') w w' S := k_liftX hE hV hm h
theorem k_dropY {c : ConfP} {p : Nat} {m m' : SM} {i E : Int} {x : Cell} {w : World} {S : Nat → Prop} (h : (rSTK c p m).p w S) (hE : Hid (m.dropE c i x = E) := by assumption) (hm : Hid (m.drop c i x = m') := by assumption) : Calls Tryd.prog 23 #[.pointer (some ⟨p, 0, none⟩), .int .i64 i, .agg x.cells.toArray] w fun e w' =>
    e = .returned (.int .i64 E) ∧ Turn (rSTK c p m') w w' S := k_dropX hE hm h
theorem k_heightY {c : ConfP} {p : Nat} {m : SM} {x : Cell} {w : World} {v : Int} (h : Has w (rSTK c p m)) (hv : Hid (m.height c x = v) := by assumption) : Calls Tryd.prog 29 #[.pointer (some ⟨p, 0, none⟩), .agg x.cells.toArray] w (Ret (.int .i64 v) w) := k_heightX hv h
theorem k_topY {c : ConfP} {p : Nat} {m : SM} {x : Cell} {w : World} {v : Int} (h : Has w (rSTK c p m)) (hv : Hid (m.top c x = v) := by assumption) : Calls Tryd.prog 33 #[.pointer (some ⟨p, 0, none⟩), .agg x.cells.toArray] w (Ret (.int .i64 v) w) := k_topX hv h
theorem k_loadY {c : ConfP} {p : Nat} {m : SM} {i : Int} {w : World} {v : Int} (h : Has w (rSTK c p m)) (hv : Hid (m.load i = v) := by assumption) : Calls Tryd.prog 27 #[.pointer (some ⟨p, 0, none⟩), .int .i64 i] w (Ret (.int .i64 v) w) := k_loadX hv h
theorem k_findY {c : ConfP} {p : Nat} {m : SM} {b : Int} {w : World} {r : Option (Cell × Int)} (h : Has w (rSTK c p m)) (hr : Hid (m.find c b = r) := by assumption) : Calls Tryd.prog 25 #[.pointer (some ⟨p, 0, none⟩), .int .i64 b] w (Ret (findV r) w) := k_findX hr h
theorem kn_yesX {c d : ConfV} {w : World} {m : SM} (h0 : SM.start c.p = m) (hm : MayP c.p) (hd : d.p = c.p) (hu : Upto c) (hwf : ∀ p ∈ c.robots.l, PoseWf p) (h : Has w (rDup d)) (hst : Has w stepsR) : Calls Tryd.prog 11 #[.agg d.cells.toArray] w fun e w' =>
    ∃ p, e = .returned (.tuple #[.pointer (some ⟨p, 0, none⟩), .int .i64 0]) ∧ Turn (rSTK c.p p m) w w' none' := by
  subst h0
  exact kn_yes hm hd hu hwf h hst
end Go.Proofs.YtcklkojggpfbnaaDoor

/- Opening what comes in, with how much it is together (its bulk). -/
namespace Go.Sk
open Go Go.ChangeShapes Go.WideShapes Go.ChangeAt Go.RowKit Go.Deep

/-- A measure of data: parts are no more than the whole. -/
structure Bulk (H : Type) where
  b : DataW H → Nat
  part : ∀ es sp (d : DataW H), d ∈ es → b d ≤ b (.slice es sp)
  len : ∀ es sp, es.length ≤ b (.slice es sp)
  agg : ∀ ds (d : DataW H), d ∈ ds → b d ≤ b (.agg ds)

section
variable {H : Type} {enc : TypeId × Value → H} {P : Program} {w w' : World} {base : Nat} {spare : Nat → Bool} {held : Bool} (B : Bulk H)

/-- A slice of things that each read as R says. -/
theorem open_csB {α : Type} {E : El α} {R : α → Nat → Prop} {t e : TypeId} {n0 : Nat} {cs : List Value} {z : DataW H × List MemPlace} (hR : ∀ a k k', R a k → k ≤ k' → R a k') (hsz : sizeB P e E.sz = true) (hpos : 0 < E.sz)
    (htr : ∀ n cs x, DataW.trod enc P w base spare held n e cs = some x → ∃ a : α, cs = E.cells a ∧ R a (B.b x.1)) (ht : P.underlying t = some (.slice e))
    (hf : DataW.trod enc P w base spare held n0 t cs = some z) :
    ∃ v, cs = [v] ∧ ∃ l : List α, Rd w E v l ∧ l.length ≤ B.b z.1 ∧ l.length ≤ maxLen ∧ ∀ x ∈ l, R x (B.b z.1) := by
  have hco : P.cellsOf e = E.sz := by
    have := hsz
    unfold sizeB at this
    unfold Program.cellsOf
    cases hi : P.info? e with
    | none => rw [hi] at this; cases this
    | some i => rw [hi] at this; simpa using this
  rcases open_slice ht hf with ⟨h0, _⟩ | ⟨a, len, cap, m, n, D, Pl, hcs, hb, hl, hm, hmm, hz, hi⟩
  · exact ⟨_, h0, [], Rd.nil w E, by simp, by simp [maxLen], fun x hx => by simp at hx⟩
  · refine ⟨_, hcs, ?_⟩
    rw [hco] at hi
    have hlm : len ≤ m := by rw [hmm]; split <;> omega
    have hzl : len ≤ B.b z.1 := by
      rw [hz]
      have := B.len ((List.range len).map D) ((List.range (m - len)).map fun j => D (len + j))
      simpa using this
    have key : ∀ i, i < len → ∃ x : α, (∀ j u, (E.cells x)[j]? = some u → w.cell? (a.add (i * E.sz + j)) = some u) ∧ R x (B.b z.1) := by
      intro i hil
      obtain ⟨cs', hc, htr'⟩ := hi i (by omega)
      obtain ⟨_, hcl, hat⟩ := World.cells?_some hc
      obtain ⟨x, rfl, hn⟩ := htr n cs' _ htr'
      refine ⟨x, fun j u hu => ?_, hR _ _ _ hn ?_⟩
      · have hj : j < E.sz := by rw [← hcl]; exact (List.getElem?_eq_some_iff.1 hu).1
        have := hat j hj
        rw [Go.Deep.add_add] at this
        rw [this, hu]
      · rw [hz]
        exact B.part _ _ _ (List.mem_map_of_mem (List.mem_range.2 hil))
    by_cases hlen : len = 0
    · subst hlen
      exact ⟨[], ⟨by simp [flat], _, _, rfl, Nat.zero_le _, .inl rfl⟩, by simp, by simp [maxLen], fun x hx => by simp at hx⟩
    · -- the address is a plain one
      have hspot : a.spot = none := by
        obtain ⟨x, hx, _⟩ := key 0 (by omega)
        have h0 : 0 < (E.cells x).length := by rw [E.len]; exact hpos
        have := hx 0 _ (List.getElem?_eq_getElem h0)
        simp only [Nat.zero_mul, Nat.add_zero, Addr.add_zero'] at this
        unfold World.cell? at this
        split at this
        · split at this
          · cases this
          · rename_i hs; simpa using hs
        · cases this
      obtain ⟨b, o, sp⟩ := a
      simp only at hspot
      subst hspot
      refine ⟨(List.range len).attach.map fun i => Classical.choose (key i.1 (List.mem_range.1 i.2)), ?_, by simpa using hzl, by simp; omega, fun x hx => ?_⟩
      · refine ⟨by rw [E.flat_len], some ⟨b, o, none⟩, cap, by simp, by simpa using hl, .inr ⟨b, o, rfl, ?_⟩⟩
        intro j u hu
        have hjl : j < len * E.sz := by
          have := (List.getElem?_eq_some_iff.1 hu).1
          rw [E.flat_len] at this
          simpa using this
        have hdiv : j / E.sz < len := Nat.div_lt_of_lt_mul (by rw [Nat.mul_comm]; exact hjl)
        have hmod : j % E.sz < E.sz := Nat.mod_lt _ hpos
        have hget : ((List.range len).attach.map fun i => Classical.choose (key i.1 (List.mem_range.1 i.2)))[j / E.sz]? = some (Classical.choose (key (j / E.sz) hdiv)) := by
          rw [List.getElem?_map, List.getElem?_attach]
          simp [hdiv]
        have hx := (Classical.choose_spec (key (j / E.sz) hdiv)).1
        have hcu : (E.cells (Classical.choose (key (j / E.sz) hdiv)))[j % E.sz]? = some ((E.cells (Classical.choose (key (j / E.sz) hdiv)))[j % E.sz]'(by rw [E.len]; exact hmod)) := List.getElem?_eq_getElem _
        have h1 := flat_get E.cells E.sz E.len _ _ _ hget _ _ hcu
        have hj : j / E.sz * E.sz + j % E.sz = j := by rw [Nat.mul_comm]; exact Nat.div_add_mod j E.sz
        rw [hj] at h1
        have h2 := hx _ _ hcu
        rw [h1] at hu
        rw [Option.some.inj hu, add_at, hj] at h2
        exact h2
      · obtain ⟨i, _, rfl⟩ := List.mem_map.1 hx
        exact (Classical.choose_spec (key i.1 (List.mem_range.1 i.2))).2

/-- A plain thing; its numbers are in their bounds. -/
theorem open_plainB {α : Type} {E : El α} {e : TypeId} {ks : List (Option IntKind)} (T : ElTy P e E ks) (n : Nat) (cs : List Value) (x : DataW H × List MemPlace) (h : DataW.trod enc P w base spare held n e cs = some x) : ∃ a : α, cs = E.cells a ∧ ∀ u ∈ E.cells a, okNum u := by
  obtain ⟨hk, hn⟩ := trod_plain 9 e ks n cs x T.kinds T.size h
  obtain ⟨a, rfl⟩ := T.ofk cs hk
  exact ⟨a, rfl, hn⟩
/-- The argument itself. -/
theorem open_listB {α : Type} {E : El α} {R : α → Nat → Prop} {t e : TypeId} {v : Value} {d : DataW H} {ps : List MemPlace} (hR : ∀ a k k', R a k → k ≤ k' → R a k') (hsz : sizeB P e E.sz = true) (hpos : 0 < E.sz)
    (htr : ∀ n cs x, DataW.trod enc P w base spare held n e cs = some x → ∃ a : α, cs = E.cells a ∧ R a (B.b x.1)) (ht : P.underlying t = some (.slice e))
    {r : Reach} {b0 : Nat} (hv : Value.okWide P w r b0 t v) (h : DataW.Trod enc P w base spare held t v d ps) :
    ∃ l : List α, Rd w E v l ∧ l.length ≤ B.b d ∧ ∀ x ∈ l, R x (B.b d) := by
  obtain ⟨fuel, hf⟩ := h
  obtain ⟨ad, len, cap, rfl⟩ := okWide_slice ht hv
  obtain ⟨v', h1, l, h2, h3, _, h4⟩ := open_csB B hR hsz hpos htr ht hf
  have h1' : [Value.slice ad len cap] = [v'] := h1
  injection h1' with h1' _
  subst h1'
  exact ⟨l, h2, h3, h4⟩
end
theorem okNum_i64 {n : Int} (h : okNum (.int .i64 n)) : -9223372036854775808 ≤ n ∧ n ≤ 9223372036854775807 := by
  have := h .i64 n rfl
  simp [Lit.wf, IntKind.min, IntKind.max, IntKind.signed, IntKind.bits] at this
  exact this
end Go.Sk

/- Opening a config that comes in; what the row's list gives: the table of steps. -/
namespace Go.Proofs.YtcklkojggpfbnaaDoor
open Go Go.Sk Go.ChangeShapes Go.WideShapes Go.ChangeAt Go.RowKit
set_option maxRecDepth 100000

/-! what the bound gives -/
theorem bulk_part {H : Type} {d : DataW H} {l : List (DataW H)} (h : d ∈ l) : Rows.uptoBulk d ≤ Rows.uptoBulkAll l := by
  induction l with
  | nil => cases h
  | cons x r ih =>
    simp only [Rows.uptoBulkAll]
    cases List.mem_cons.1 h with
    | inl e => subst e; omega
    | inr e => have := ih e; omega
theorem bulk_one {H : Type} (d : DataW H) : 1 ≤ Rows.uptoBulk d := by
  cases d with
  | lit l => cases l <;> simp [Rows.uptoBulk]
  | nil => simp [Rows.uptoBulk]
  | ptr d => simp [Rows.uptoBulk]
  | slice elems spare => simp [Rows.uptoBulk]
  | agg parts => simp [Rows.uptoBulk]
  | iface t d => simp [Rows.uptoBulk]
  | map entries => simp [Rows.uptoBulk]
  | held h => simp [Rows.uptoBulk]
theorem bulk_len {H : Type} (l : List (DataW H)) : l.length ≤ Rows.uptoBulkAll l := by
  induction l with
  | nil => simp [Rows.uptoBulkAll]
  | cons x r ih => have := bulk_one x; simp only [Rows.uptoBulkAll, List.length_cons]; omega
theorem bulk_small {H : Type} {l : List (DataW H)} (h : Rows.uptoSmall H l = true) : Rows.uptoBulkAll l ≤ 1048576 := of_decide_eq_true h
def bulkOf (H : Type) : Bulk H where
  b := Rows.uptoBulk
  part es sp d h := by have := bulk_part h; simp only [Rows.uptoBulk]; omega
  len es sp := by have := bulk_len es; simp only [Rows.uptoBulk]; omega
  agg ds d h := by have := bulk_part h; simp only [Rows.uptoBulk]; omega

def poseKs : List (Option IntKind) := [some .i64, some .i64, none]
theorem ofk_cell : ∀ cs, ofKinds cellKs cs = true → ∃ x, cs = elCell.cells x := by
  intro cs h
  match cs, h with
  | [.int .i64 a, .int .i64 b], _ => exact ⟨⟨a, b⟩, rfl⟩
theorem ofk_pose : ∀ cs, ofKinds poseKs cs = true → ∃ x, cs = elPose.cells x := by
  intro cs h
  match cs, h with
  | [.int .i64 a, .int .i64 b, .bool d], _ => exact ⟨⟨⟨a, b⟩, d⟩, rfl⟩
theorem cellElTy : ElTy Tryd.prog 39 elCell cellKs := ⟨by kernel_rfl, by kernel_rfl, rfl, by decide, ofk_cell⟩
theorem poseElTy : ElTy Tryd.prog 77 elPose poseKs := ⟨by kernel_rfl, by kernel_rfl, rfl, by decide, ofk_pose⟩
theorem intElTy : ElTy Tryd.prog 3 elInt [some .i64] := ⟨by kernel_rfl, by kernel_rfl, rfl, by decide, ofk_int⟩

section
variable {H : Type} {enc : TypeId × Value → H} {w : World} {base : Nat} {spare : Nat → Bool} {held : Bool}
theorem open_cell (n : Nat) (cs : List Value) (x : DataW H × List MemPlace) (h : DataW.trod enc Tryd.prog w base spare held n 39 cs = some x) : ∃ a : Cell, cs = a.cells := by
  obtain ⟨a, h, _⟩ := open_plainB cellElTy n cs x h
  exact ⟨a, h⟩
theorem open_stack (n : Nat) (cs : List Value) (x : DataW H × List MemPlace) (h : DataW.trod enc Tryd.prog w base spare held n 42 cs = some x) :
    ∃ a : StackV, cs = elStack.cells a ∧ Rd w elInt a.bins.val a.bins.l ∧ a.bins.l.length ≤ (bulkOf H).b x.1 := by
  obtain ⟨xs, m, _, hx, hl, hlen, hf⟩ := DataW.trod_struct Tryd.underlying42 h
  have hl3 : cs.length = 3 := by rw [hl]; kernel_rfl
  obtain ⟨a, b, c, rfl⟩ : ∃ a b c, cs = [a, b, c] := by
    match cs, hl3 with
    | [a, b, c], _ => exact ⟨a, b, c, rfl⟩
  have hx2 : xs.length = 2 := hlen
  have f0 := hf 0 _ rfl
  have f1 := hf 1 _ rfl
  rw [List.getElem?_eq_getElem (by omega)] at f0 f1
  have g0 : DataW.trod enc Tryd.prog w base spare held m 39 [a, b] = some xs[0] := f0
  have g1 : DataW.trod enc Tryd.prog w base spare held m 40 [c] = some xs[1] := f1
  obtain ⟨p, hp⟩ := open_cell _ _ _ g0
  obtain ⟨v, hv, l, hrd, hll, _, _⟩ := open_csB (bulkOf H) (E := elInt) (R := fun _ _ => True) (fun _ _ _ _ _ => trivial) (by kernel_rfl) (by decide) (fun n cs x h => let ⟨a, h, _⟩ := open_plainB intElTy n cs x h; ⟨a, h, trivial⟩) Tryd.underlying40 g1
  obtain ⟨ad, cap, rfl⟩ := hrd.vee
  injection hp with h1 hp
  injection hp with h2 _
  injection hv with hv _
  subst h1 h2 hv
  refine ⟨⟨p, ⟨ad, l, cap⟩⟩, rfl, hrd, Nat.le_trans hll ?_⟩
  rw [hx]
  exact (bulkOf H).agg _ _ (List.mem_map_of_mem (List.getElem_mem _))
set_option maxHeartbeats 1000000 in
/-- A config, with the bound on what it holds. -/
theorem open_conf (n : Nat) (cs : List Value) (x : DataW H × List MemPlace) (h : DataW.trod enc Tryd.prog w base spare held n 26 cs = some x) :
    ∃ c : ConfV, cs = c.cells ∧ Has w (rConf c) ∧ (∀ p ∈ c.robots.l, PoseWf p) ∧ ((bulkOf H).b x.1 ≤ 1048576 → Upto c) := by
  obtain ⟨xs, m, _, hx, hl, hlen, hf⟩ := DataW.trod_struct Tryd.underlying26 h
  have hl16 : cs.length = 16 := by rw [hl]; kernel_rfl
  obtain ⟨c0, c1, c2, c3, c4, c5, c6, c7, c8, c9, c10, c11, c12, c13, c14, c15, rfl⟩ : ∃ c0 c1 c2 c3 c4 c5 c6 c7 c8 c9 c10 c11 c12 c13 c14 c15, cs = [c0, c1, c2, c3, c4, c5, c6, c7, c8, c9, c10, c11, c12, c13, c14, c15] := by
    match cs, hl16 with
    | [c0, c1, c2, c3, c4, c5, c6, c7, c8, c9, c10, c11, c12, c13, c14, c15], _ => exact ⟨_, _, _, _, _, _, _, _, _, _, _, _, _, _, _, _, rfl⟩
  have hx16 : xs.length = 16 := hlen
  have hget : ∀ i, i < 16 → ∃ y, xs[i]? = some y ∧ (bulkOf H).b y.1 ≤ (bulkOf H).b x.1 := fun i hi => ⟨xs[i]'(by omega), List.getElem?_eq_getElem _, by rw [hx]; exact (bulkOf H).agg _ _ (List.mem_map_of_mem (List.getElem_mem _))⟩
  have num : ∀ i c, DataW.trod enc Tryd.prog w base spare held m 3 [c] = xs[i]? → i < 16 → ∃ k, c = .int .i64 k := fun i c hh hi => by
    obtain ⟨y, hy, _⟩ := hget i hi
    obtain ⟨k, hk, _, _⟩ := DataW.trod_int Tryd.underlying3 (hh.trans hy)
    injection hk with hk _
    exact ⟨k, hk⟩
  obtain ⟨k0, rfl⟩ := num 0 c0 (hf 0 _ rfl) (by decide)
  obtain ⟨k1, rfl⟩ := num 1 c1 (hf 1 _ rfl) (by decide)
  obtain ⟨k2, rfl⟩ := num 2 c2 (hf 2 _ rfl) (by decide)
  obtain ⟨k7, rfl⟩ := num 7 c7 (hf 7 _ rfl) (by decide)
  obtain ⟨k8, rfl⟩ := num 8 c8 (hf 8 _ rfl) (by decide)
  obtain ⟨k9, rfl⟩ := num 9 c9 (hf 9 _ rfl) (by decide)
  obtain ⟨k10, rfl⟩ := num 10 c10 (hf 10 _ rfl) (by decide)
  obtain ⟨k11, rfl⟩ := num 11 c11 (hf 11 _ rfl) (by decide)
  obtain ⟨k12, rfl⟩ := num 12 c12 (hf 12 _ rfl) (by decide)
  obtain ⟨k13, rfl⟩ := num 13 c13 (hf 13 _ rfl) (by decide)
  obtain ⟨k14, rfl⟩ := num 14 c14 (hf 14 _ rfl) (by decide)
  obtain ⟨y3, e3, b3⟩ := hget 3 (by decide)
  obtain ⟨y4, e4, b4⟩ := hget 4 (by decide)
  obtain ⟨y5, e5, b5⟩ := hget 5 (by decide)
  obtain ⟨y6, e6, b6⟩ := hget 6 (by decide)
  obtain ⟨y15, e15, b15⟩ := hget 15 (by decide)
  have g3 : DataW.trod enc Tryd.prog w base spare held m 22 [c3] = some y3 := (hf 3 _ rfl).trans e3
  have g4 : DataW.trod enc Tryd.prog w base spare held m 22 [c4] = some y4 := (hf 4 _ rfl).trans e4
  have g5 : DataW.trod enc Tryd.prog w base spare held m 23 [c5] = some y5 := (hf 5 _ rfl).trans e5
  have g6 : DataW.trod enc Tryd.prog w base spare held m 24 [c6] = some y6 := (hf 6 _ rfl).trans e6
  have g15 : DataW.trod enc Tryd.prog w base spare held m 4 [c15] = some y15 := (hf 15 _ rfl).trans e15
  obtain ⟨k15, hk15, _⟩ := DataW.trod_bool Tryd.underlying4 g15
  injection hk15 with hk15 _
  subst hk15
  obtain ⟨v3, hv3, l3, hr3, hl3, _, _⟩ := open_csB (bulkOf H) (E := elCell) (R := fun _ _ => True) (fun _ _ _ _ _ => trivial) (by kernel_rfl) (by decide) (fun n cs x h => let ⟨a, h, _⟩ := open_plainB cellElTy n cs x h; ⟨a, h, trivial⟩) Tryd.underlying22 g3
  obtain ⟨v4, hv4, l4, hr4, hl4, _, _⟩ := open_csB (bulkOf H) (E := elCell) (R := fun _ _ => True) (fun _ _ _ _ _ => trivial) (by kernel_rfl) (by decide) (fun n cs x h => let ⟨a, h, _⟩ := open_plainB cellElTy n cs x h; ⟨a, h, trivial⟩) Tryd.underlying22 g4
  obtain ⟨v5, hv5, l5, hr5, hl5, _, hn5⟩ := open_csB (bulkOf H) (E := elPose) (R := fun p _ => ∀ u ∈ elPose.cells p, okNum u) (fun _ _ _ h _ => h) (by kernel_rfl) (by decide) (fun n cs x h => open_plainB poseElTy n cs x h) Tryd.underlying23 g5
  obtain ⟨v6, hv6, l6, hr6, hl6, _, hn6⟩ := open_csB (bulkOf H) (E := elStack) (R := fun a k => Rd w elInt a.bins.val a.bins.l ∧ a.bins.l.length ≤ k) (fun _ _ _ h hk => ⟨h.1, Nat.le_trans h.2 hk⟩) (by kernel_rfl) (by decide) (fun n cs x h => open_stack n cs x h) Tryd.underlying24 g6
  obtain ⟨a3, n3, rfl⟩ := hr3.vee
  obtain ⟨a4, n4, rfl⟩ := hr4.vee
  obtain ⟨a5, n5, rfl⟩ := hr5.vee
  obtain ⟨a6, n6, rfl⟩ := hr6.vee
  injection hv3 with hv3 _
  injection hv4 with hv4 _
  injection hv5 with hv5 _
  injection hv6 with hv6 _
  subst hv3 hv4 hv5 hv6
  refine ⟨⟨k0, k1, k2, ⟨a3, l3, n3⟩, ⟨a4, l4, n4⟩, ⟨a5, l5, n5⟩, ⟨a6, l6, n6⟩, k7, k8, k9, k10, k11, k12, k13, k14, k15⟩, rfl, ?_, fun p hp => ?_, fun hb => ?_⟩
  · refine Has.all.2 fun r hr => ?_
    simp only [List.mem_cons, List.not_mem_nil, or_false] at hr
    rcases hr with rfl | rfl | rfl | rfl
    · exact hr3.has
    · exact hr4.has
    · exact hr5.has
    · refine Has.two.2 ⟨hr6.has, Has.all.2 fun r hr => ?_⟩
      obtain ⟨s, hs, rfl⟩ := List.mem_map.1 hr
      exact (hn6 s hs).1.has
  · have h0 := hn5 p hp
    exact ⟨okNum_i64 (h0 (.int .i64 p.at_.x) (by simp [Pose.cells])), okNum_i64 (h0 (.int .i64 p.at_.y) (by simp [Pose.cells]))⟩
  · exact ⟨by show l3.length ≤ _; omega, by show l4.length ≤ _; omega, by show l5.length ≤ _; omega, by show l6.length ≤ _; omega, fun s hs => by have := (hn6 s hs).2; omega⟩
theorem open_confA {v : Value} {d : DataW H} {ps : List MemPlace} {r : Reach} {b0 : Nat} (hv : Value.okWide Tryd.prog w r b0 26 v) (h : DataW.Trod enc Tryd.prog w base spare held 26 v d ps) :
    ∃ c : ConfV, v = .agg c.cells.toArray ∧ Has w (rConf c) ∧ (∀ p ∈ c.robots.l, PoseWf p) ∧ ((bulkOf H).b d ≤ 1048576 → Upto c) := by
  obtain ⟨fuel, hf⟩ := h
  obtain ⟨cs, rfl, hsz⟩ := okWide_struct Tryd.underlying26 hv
  obtain ⟨c, hc, h1, h2, h3⟩ := open_conf fuel _ _ hf
  have hc' : cs.toList = c.cells := hc
  exact ⟨c, by rw [← hc'], h1, h2, h3⟩
end

/-! the table of steps -/
theorem gSteps : Tryd.prog.globalNamed "skep/grid.steps" = some 0 := by kernel_rfl
theorem gStepsType : (Tryd.prog.globals[0]?).map (·.type) = some 122 := by kernel_rfl
theorem cell_is {P : Nat → Bool} {w : World} {held : Bool} {m : Nat} {a b : Value} {x y : Int} {p : List MemPlace} (h : DataW.trod (H := Unit) (fun _ => ()) Tryd.prog w 0 P held m 39 [a, b] = some (.agg [.lit (.int .i64 x), .lit (.int .i64 y)], p)) : a = .int .i64 x ∧ b = .int .i64 y := by
  obtain ⟨xs, n, _, hx, _, hlen, hf⟩ := DataW.trod_struct Tryd.underlying39 h
  have hx2 : xs.length = 2 := hlen
  have f0 := hf 0 _ rfl
  have f1 := hf 1 _ rfl
  match xs, hx2 with
  | [y0, y1], _ =>
    have g0 : DataW.trod (fun _ => ()) Tryd.prog w 0 P held n 3 [a] = some y0 := f0
    have g1 : DataW.trod (fun _ => ()) Tryd.prog w 0 P held n 3 [b] = some y1 := f1
    obtain ⟨k0, hk0, e0, _⟩ := DataW.trod_int Tryd.underlying3 g0
    obtain ⟨k1, hk1, e1, _⟩ := DataW.trod_int Tryd.underlying3 g1
    injection hk0 with hk0 _
    injection hk1 with hk1 _
    injection hx with hx _
    injection hx with hx
    simp only [List.map_cons, List.map_nil] at hx
    injection hx with h1 hx
    injection hx with h2 _
    have i0 : y0.1 = .lit (.int .i64 k0) := by rw [e0]
    have i1 : y1.1 = .lit (.int .i64 k1) := by rw [e1]
    rw [i0] at h1
    rw [i1] at h2
    injection h1 with h1
    injection h2 with h2
    injection h1 with _ h1
    injection h2 with _ h2
    exact ⟨by rw [hk0, h1], by rw [hk1, h2]⟩
theorem steps_of_laid {W : World} (h : laidMetH Tryd.prog [("skep/grid.steps", Rows.laid_skep_grid_steps)] W) : Has W stepsR := by
  have h' : laidMet Tryd.prog [("skep/grid.steps", Rows.laid_skep_grid_steps)] W := h
  obtain ⟨ps, ⟨g', t', cs, fuel, p, q, hg', ht', hvar, hd, _, _⟩, _⟩ := h'
  obtain rfl := Option.some.inj (gSteps.symm.trans hg')
  obtain rfl := Option.some.inj (gStepsType.symm.trans ht')
  obtain ⟨xs, m, _, hx, hl, hlen, hf⟩ := DataW.trod_array Tryd.underlying122 hd
  have hl8 : cs.toList.length = 8 := by rw [hl]; kernel_rfl
  obtain ⟨a0, a1, a2, a3, a4, a5, a6, a7, hcs⟩ : ∃ a0 a1 a2 a3 a4 a5 a6 a7, cs.toList = [a0, a1, a2, a3, a4, a5, a6, a7] := by
    match cs.toList, hl8 with
    | [a0, a1, a2, a3, a4, a5, a6, a7], _ => exact ⟨_, _, _, _, _, _, _, _, rfl⟩
  match xs, hlen with
  | [y0, y1, y2, y3], _ =>
    have hce : Tryd.prog.cellsOf 39 = 2 := by kernel_rfl
    rw [hce, hcs] at hf
    injection hx with hx _
    simp only [Rows.laid_skep_grid_steps] at hx
    injection hx with hx
    simp only [List.map_cons, List.map_nil] at hx
    injection hx with h0 hx
    injection hx with h1 hx
    injection hx with h2 hx
    injection hx with h3 _
    have f0 : DataW.trod (fun _ => ()) Tryd.prog W 0 (fun _ => true) false m 39 [a0, a1] = some (y0.1, y0.2) := hf 0 (by decide)
    have f1 : DataW.trod (fun _ => ()) Tryd.prog W 0 (fun _ => true) false m 39 [a2, a3] = some (y1.1, y1.2) := hf 1 (by decide)
    have f2 : DataW.trod (fun _ => ()) Tryd.prog W 0 (fun _ => true) false m 39 [a4, a5] = some (y2.1, y2.2) := hf 2 (by decide)
    have f3 : DataW.trod (fun _ => ()) Tryd.prog W 0 (fun _ => true) false m 39 [a6, a7] = some (y3.1, y3.2) := hf 3 (by decide)
    rw [← h0] at f0
    rw [← h1] at f1
    rw [← h2] at f2
    rw [← h3] at f3
    obtain ⟨rfl, rfl⟩ := cell_is f0
    obtain ⟨rfl, rfl⟩ := cell_is f1
    obtain ⟨rfl, rfl⟩ := cell_is f2
    obtain ⟨rfl, rfl⟩ := cell_is f3
    refine At.has (fun j u hu => ?_) (by simp)
    have := World.var?_cell gSteps hvar j
    rw [Nat.zero_add, this, ← Array.getElem?_toList, hcs]
    exact hu
/-- A world for the witness: the settled one, the table laid. -/
noncomputable def laidWorld (os : Os) : World :=
  { World.holding Tryd.prog os ⟨#[], #[], []⟩ with heap := (World.holding Tryd.prog os ⟨#[], #[], []⟩).heap.modify 0 fun
      | .cells _ t frozen => .cells #[.int .i64 0, .int .i64 (-1), .int .i64 1, .int .i64 0, .int .i64 0, .int .i64 1, .int .i64 (-1), .int .i64 0] t frozen
      | o => o }
def zeroConf : Value := .agg #[.int .i64 0, .int .i64 0, .int .i64 0, .slice none 0 0, .slice none 0 0, .slice none 0 0, .slice none 0 0, .int .i64 0, .int .i64 0, .int .i64 0, .int .i64 0, .int .i64 0, .int .i64 0, .int .i64 0, .int .i64 0, .bool false]
def zeroCell : Value := .agg #[.int .i64 0, .int .i64 0]
end Go.Proofs.YtcklkojggpfbnaaDoor

/- A slice of one's own whose elements may be whatever: they may be written. -/
namespace Go.Sk
open Go

/-- n elements, whatever they are. -/
@[irreducible] def rSome {α : Type} (e : TypeId) (E : El α) (v : Value) (n : Nat) : Res where
  p w S := ∃ xs : List α, xs.length = n ∧ (rOw e E v xs).p w S
  loc := by rintro w w' S ⟨xs, h1, h2⟩ he; exact ⟨xs, h1, (rOw e E v xs).loc h2 he⟩
  lt := by rintro w S ⟨xs, _, h2⟩; exact (rOw e E v xs).lt h2
section
variable {α : Type} {E : El α} {e : TypeId} {w0 w : World} {F : Nat → Prop} {M L : List Res}
theorem rSome_p {v : Value} {n : Nat} {S : Nat → Prop} : (rSome e E v n).p w S ↔ ∃ xs : List α, xs.length = n ∧ (rOw e E v xs).p w S := by unfold rSome; exact Iff.rfl
theorem rOw_some {v : Value} {xs : List α} {n : Nat} (hn : xs.length = n) {S : Nat → Prop} (h : (rOw e E v xs).p w S) : (rSome e E v n).p w S := rSome_p.2 ⟨xs, hn, h⟩
theorem Sep.mapMono {β : Type} {f g : β → Res} (hfg : ∀ x w S, (f x).p w S → (g x).p w S) : ∀ {l : List β} {S : Nat → Prop}, Sep w (l.map f) S → Sep w (l.map g) S
  | [], _, h => h
  | x :: l, _, ⟨S, V, h1, h2, h3, h4⟩ => ⟨S, V, hfg x w S h1, Sep.mapMono hfg h2, h3, h4⟩
/-- One thing of one's own is seen otherwise. -/
theorem Know.seen {r r' : Res} {i : Nat} (h : Know w0 w F M L) (ho : ∀ w S, r.p w S → r'.p w S) (hi : Ix M r i := by repeat (first | exact Ix.head | apply Ix.tail)) : Know w0 w F (M.set i r') L := by
  obtain ⟨S, h1, h2⟩ := h.stepI hi
  exact h2 w r' ⟨Mod.refl _ _, S, ho w S h1, fun _ h => .inl h⟩
variable {P : Program} {ops : Array Oper} {rest : List Oper} {o : Oper} {a : Act} {Q : Exit → Act → World → Prop}
/-- Its j-th place. -/
theorem wl_ixAny {t e' : TypeId} {x y : Operand} {n c i j : Nat} {ad : Option Addr} {kd : IntKind} (hK : Know w0 w F M L) (ho : o.op = .indexAddr t x y) (hw : Region.wanted o (yielded ops a.tmps) = true) (hx : a.eval x = .slice ad n c) (hy : a.eval y = .int kd (i : Int))
    (ht : P.underlying t = some (.slice e')) (hsz : sizeB P e' E.sz = true) (hlt : i < n)
    (hi : Ix M (rSome e E (.slice ad n c) n) j := by repeat (first | exact Ix.head | apply Ix.tail))
    (h : ∀ b k, Spot E (.slice ad n c) b k i → wpList P ops Q rest (a.put o.dst (.pointer (some ⟨b, k, none⟩))) w) : wpList P ops Q (o :: rest) a w := by
  obtain ⟨S, h1, _⟩ := hK.stepI hi
  obtain ⟨xs, hn, hO⟩ := rSome_p.1 h1
  obtain ⟨u, hu⟩ : ∃ u, xs[i]? = some u := ⟨_, List.getElem?_eq_getElem (by omega)⟩
  obtain ⟨b, rfl, hat⟩ := (rOw_p.1 hO).1.elem hu
  refine wl_indexAddr (b := b) (k := 0) ho hw hx hy ht hsz (Int.natCast_nonneg i) (by omega) ?_
  rw [Int.toNat_natCast, Nat.zero_add]
  exact h b _ ⟨rfl, rfl⟩
/-- It is written. -/
theorem wl_storeAny {t : TypeId} {x y : Operand} {b k i j : Nat} {v : Value} {ad : Option Addr} {n c : Nat} (u : α) (hK : Know w0 w F M L) (ho : o.op = .store t x y) (hw : Region.wanted o (yielded ops a.tmps) = true) (hx : a.eval x = .pointer (some ⟨b, k, none⟩)) (hy : a.eval y = v)
    (ht : sizeB P t E.sz = true) (hs : Spot E (.slice ad n c) b k i) (hlt : i < n)
    (hi : Ix M (rSome e E (.slice ad n c) n) j := by repeat (first | exact Ix.head | apply Ix.tail))
    (hv : (v = .agg (E.cells u).toArray) ∨ (E.sz = 1 ∧ [v] = E.cells u) := by first | exact .inl rfl | exact .inr ⟨rfl, rfl⟩)
    (h : ∀ w', Know w0 w' F (M.set j (rSome e E (.slice ad n c) n)) L → wpList P ops Q rest (a.put o.dst undef) w') : wpList P ops Q (o :: rest) a w := by
  obtain ⟨S, h1, h2⟩ := hK.stepI hi
  obtain ⟨xs, hn, hO⟩ := rSome_p.1 h1
  obtain ⟨hOw, rfl⟩ := rOw_p.1 hO
  obtain ⟨hb, rfl⟩ := hs
  obtain ⟨cur, hB, hlen, hset⟩ := hOw.cell_set hb rfl (show i < xs.length by omega)
  have hfin : ∀ w', Blk w' b (cur.take (i * E.sz) ++ E.cells u ++ cur.drop (i * E.sz + E.sz)) e → Mod (only b) w w' → wpList P ops Q rest (a.put o.dst undef) w' := fun w' hB' m =>
    h w' (h2 w' _ ⟨m.mono fun b' hb' => by cases hb'; exact hb, _, rSome_p.2 ⟨xs.set i u, by simpa using hn, rOw_p.2 ⟨hset w' u hB', rfl⟩⟩, fun _ h => .inl h⟩)
  rcases hv with rfl | ⟨h1, hv⟩
  · exact wl_storeS ho hw hx hy ht (E.len u) (E.one u) hB hlen hfin
  · rw [← hv] at hfin
    have hE : E.sz = 1 := h1
    have hset2 : cur.set (i * E.sz) v = cur.take (i * E.sz) ++ [v] ++ cur.drop (i * E.sz + E.sz) := by
      rw [List.set_eq_take_append_cons_drop, if_pos (by omega), hE]; simp
    refine wl_store ho hw hx hy (by rw [hE] at ht; exact ht) ?_ hB (by omega) fun w' hB' m => hfin w' (by rw [hset2] at hB'; exact hB') m
    exact E.one u v (by rw [← hv]; simp)
end
end Go.Sk
