/- What the laws on stacks share: the config's copy, and the stacks that are made of it. -/
import Derived.Test.YtngeeilkpnihmaaGreatDoorAwQ
set_option linter.all false
namespace Go.Proofs.YtngeeilkpnihmaaGreatDoor
open Go Go.Sk Go.RowKit
set_option maxRecDepth 100000

theorem ks_new {c d : ConfV} {w : World} (hd : d.p = c.p) (hu : Upto c) (hwf : ∀ p ∈ c.robots.l, PoseWf p) (h : Has w (rDup d)) (hst : Has w stepsR) : Calls Tryz.prog 33 #[.agg d.cells.toArray] w fun e w' =>
    (¬ MayP c.p ∧ e = .returned (.tuple #[.pointer none, .int .i64 5]) ∧ Mod none' w w') ∨
    (MayP c.p ∧ ∃ p, e = .returned (.tuple #[.pointer (some ⟨p, 0, none⟩), .int .i64 0]) ∧ Turn (rSTK c.p p (SM.start c.p)) w w' none') := by
  have h3 : d.robots.l = c.robots.l := congrArg ConfP.robots hd
  have := k_new (c := d) (dup_has h) hst (upto_p hd hu).sized (by rw [h3]; exact hwf)
  rw [hd] at this
  exact this
theorem kn_yes {c d : ConfV} {w : World} (hm : MayP c.p) (hd : d.p = c.p) (hu : Upto c) (hwf : ∀ p ∈ c.robots.l, PoseWf p) (h : Has w (rDup d)) (hst : Has w stepsR) : Calls Tryz.prog 33 #[.agg d.cells.toArray] w fun e w' =>
    ∃ p, e = .returned (.tuple #[.pointer (some ⟨p, 0, none⟩), .int .i64 0]) ∧ Turn (rSTK c.p p (SM.start c.p)) w w' none' :=
  (ks_new hd hu hwf h hst).mono fun e w' hp => hp.elim (fun hn => absurd hm hn.1) fun hp => hp.2
theorem kn_no {c d : ConfV} {w : World} (hm : ¬ MayP c.p) (hd : d.p = c.p) (hu : Upto c) (hwf : ∀ p ∈ c.robots.l, PoseWf p) (h : Has w (rDup d)) (hst : Has w stepsR) : Calls Tryz.prog 33 #[.agg d.cells.toArray] w
    (Ret (.tuple #[.pointer none, .int .i64 5]) w) :=
  (ks_new hd hu hwf h hst).mono fun e w' hp => hp.elim (fun hn => hn.2) fun hp => absurd hp.1 hm
open Classical in
theorem may_ways (c : ConfP) : (¬ MayP c ∧ mayB c = false ∧ decide (smallB c) = false) ∨ (MayP c ∧ mayB c = true ∧ decide (smallB c) = false) ∨ (MayP c ∧ mayB c = true ∧ decide (smallB c) = true ∧ smallB c) := by
  by_cases h : MayP c
  · by_cases hs : smallB c
    · exact .inr (.inr ⟨h, mayB_true.2 h, decide_eq_true hs, hs⟩)
    · exact .inr (.inl ⟨h, mayB_true.2 h, decide_eq_false hs⟩)
  · exact .inl ⟨h, mayB_false h, decide_eq_false fun hs => h hs.2.2.2.2.2.2.2⟩
theorem k_liftX {c : ConfP} {p : Nat} {m m' : SM} {i E V : Int} {x : Cell} {w : World} {S : Nat → Prop} (hE : m.liftE c i x = E) (hV : m.liftV c i x = V) (hm : m.lift c i x = m') (h : (rSTK c p m).p w S) : Calls Tryz.prog 67 #[.pointer (some ⟨p, 0, none⟩), .int .i64 i, .agg x.cells.toArray] w fun e w' =>
    e = .returned (.tuple #[.int .i64 V, .int .i64 E]) ∧ Turn (rSTK c p m') w w' S := by
  subst hE hV hm
  exact k_lift h
theorem k_dropX {c : ConfP} {p : Nat} {m m' : SM} {i E : Int} {x : Cell} {w : World} {S : Nat → Prop} (hE : m.dropE c i x = E) (hm : m.drop c i x = m') (h : (rSTK c p m).p w S) : Calls Tryz.prog 70 #[.pointer (some ⟨p, 0, none⟩), .int .i64 i, .agg x.cells.toArray] w fun e w' =>
    e = .returned (.int .i64 E) ∧ Turn (rSTK c p m') w w' S := by
  subst hE hm
  exact k_drop h
theorem k_topX {c : ConfP} {p : Nat} {m : SM} {x : Cell} {w : World} {v : Int} (hv : m.top c x = v) (h : Has w (rSTK c p m)) : Calls Tryz.prog 93 #[.pointer (some ⟨p, 0, none⟩), .agg x.cells.toArray] w (Ret (.int .i64 v) w) := by
  subst hv
  exact k_top h
theorem k_loadX {c : ConfP} {p : Nat} {m : SM} {i : Int} {w : World} {v : Int} (hv : m.load i = v) (h : Has w (rSTK c p m)) : Calls Tryz.prog 69 #[.pointer (some ⟨p, 0, none⟩), .int .i64 i] w (Ret (.int .i64 v) w) := by
  subst hv
  exact k_load h
/-! the same, the facts found among what is at hand -/
theorem k_liftY {c : ConfP} {p : Nat} {m m' : SM} {i E V : Int} {x : Cell} {w : World} {S : Nat → Prop} (h : (rSTK c p m).p w S) (hE : Hid (m.liftE c i x = E) := by assumption) (hV : Hid (m.liftV c i x = V) := by assumption) (hm : Hid (m.lift c i x = m') := by assumption) : Calls Tryz.prog 67 #[.pointer (some ⟨p, 0, none⟩), .int .i64 i, .agg x.cells.toArray] w fun e w' =>
    e = .returned (.tuple #[.int .i64 V, .int .i64 E]) ∧ Turn (rSTK c p m') w w' S := k_liftX hE hV hm h
theorem k_dropY {c : ConfP} {p : Nat} {m m' : SM} {i E : Int} {x : Cell} {w : World} {S : Nat → Prop} (h : (rSTK c p m).p w S) (hE : Hid (m.dropE c i x = E) := by assumption) (hm : Hid (m.drop c i x = m') := by assumption) : Calls Tryz.prog 70 #[.pointer (some ⟨p, 0, none⟩), .int .i64 i, .agg x.cells.toArray] w fun e w' =>
    e = .returned (.int .i64 E) ∧ Turn (rSTK c p m') w w' S := k_dropX hE hm h
theorem k_topY {c : ConfP} {p : Nat} {m : SM} {x : Cell} {w : World} {v : Int} (h : Has w (rSTK c p m)) (hv : Hid (m.top c x = v) := by assumption) : Calls Tryz.prog 93 #[.pointer (some ⟨p, 0, none⟩), .agg x.cells.toArray] w (Ret (.int .i64 v) w) := k_topX hv h
theorem k_loadY {c : ConfP} {p : Nat} {m : SM} {i : Int} {w : World} {v : Int} (h : Has w (rSTK c p m)) (hv : Hid (m.load i = v) := by assumption) : Calls Tryz.prog 69 #[.pointer (some ⟨p, 0, none⟩), .int .i64 i] w (Ret (.int .i64 v) w) := k_loadX hv h
theorem kn_yesX {c d : ConfV} {w : World} {m : SM} (h0 : SM.start c.p = m) (hm : MayP c.p) (hd : d.p = c.p) (hu : Upto c) (hwf : ∀ p ∈ c.robots.l, PoseWf p) (h : Has w (rDup d)) (hst : Has w stepsR) : Calls Tryz.prog 33 #[.agg d.cells.toArray] w fun e w' =>
    ∃ p, e = .returned (.tuple #[.pointer (some ⟨p, 0, none⟩), .int .i64 0]) ∧ Turn (rSTK c.p p m) w w' none' := by
  subst h0
  exact kn_yes hm hd hu hwf h hst
end Go.Proofs.YtngeeilkpnihmaaGreatDoor
