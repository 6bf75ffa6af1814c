/- Texts of mine that belong together: SkOpen, Op, SkOwn, SkAny. -/
import Derived.Test.YtcjpnlplibaffaaGreatDoorSkB
import Derived.Test.YtcjpnlplibaffaaGreatDoorRows
import Derived.Test.YtcjpnlplibaffaaGreatDoorStA
import Derived.Test.YtcjpnlplibaffaaGreatDoorGrA
import Derived.Lib.LaidTab
set_option linter.all false
/- Opening what comes in, with how much it is together (its bulk). -/
namespace Go.Sk
open Go Go.ChangeShapes Go.WideShapes Go.ChangeAt Go.RowKit Go.Deep

/-- A measure of data: parts are no more than the whole. -/
structure Bulk (H : Type) where
  b : DataW H → Nat
  part : ∀ es sp (d : DataW H), d ∈ es → b d ≤ b (.slice es sp)
  len : ∀ es sp, es.length ≤ b (.slice es sp)
  agg : ∀ ds (d : DataW H), d ∈ ds → b d ≤ b (.agg ds)

section
variable {H : Type} {enc : TypeId × Value → H} {P : Program} {w w' : World} {base : Nat} {spare : Nat → Bool} {held : Bool} (B : Bulk H)

/-- A slice of things that each read as R says. -/
theorem open_csB {α : Type} {E : El α} {R : α → Nat → Prop} {t e : TypeId} {n0 : Nat} {cs : List Value} {z : DataW H × List MemPlace} (hR : ∀ a k k', R a k → k ≤ k' → R a k') (hsz : sizeB P e E.sz = true) (hpos : 0 < E.sz)
    (htr : ∀ n cs x, DataW.trod enc P w base spare held n e cs = some x → ∃ a : α, cs = E.cells a ∧ R a (B.b x.1)) (ht : P.underlying t = some (.slice e))
    (hf : DataW.trod enc P w base spare held n0 t cs = some z) :
    ∃ v, cs = [v] ∧ ∃ l : List α, Rd w E v l ∧ l.length ≤ B.b z.1 ∧ l.length ≤ maxLen ∧ ∀ x ∈ l, R x (B.b z.1) := by
  have hco : P.cellsOf e = E.sz := by
    have := hsz
    unfold sizeB at this
    unfold Program.cellsOf
    cases hi : P.info? e with
    | none => rw [hi] at this; cases this
    | some i => rw [hi] at this; simpa using this
  rcases open_slice ht hf with ⟨h0, _⟩ | ⟨a, len, cap, m, n, D, Pl, hcs, hb, hl, hm, hmm, hz, hi⟩
  · exact ⟨_, h0, [], Rd.nil w E, by simp, by simp [maxLen], fun x hx => by simp at hx⟩
  · refine ⟨_, hcs, ?_⟩
    rw [hco] at hi
    have hlm : len ≤ m := by rw [hmm]; split <;> omega
    have hzl : len ≤ B.b z.1 := by
      rw [hz]
      have := B.len ((List.range len).map D) ((List.range (m - len)).map fun j => D (len + j))
      simpa using this
    have key : ∀ i, i < len → ∃ x : α, (∀ j u, (E.cells x)[j]? = some u → w.cell? (a.add (i * E.sz + j)) = some u) ∧ R x (B.b z.1) := by
      intro i hil
      obtain ⟨cs', hc, htr'⟩ := hi i (by omega)
      obtain ⟨_, hcl, hat⟩ := World.cells?_some hc
      obtain ⟨x, rfl, hn⟩ := htr n cs' _ htr'
      refine ⟨x, fun j u hu => ?_, hR _ _ _ hn ?_⟩
      · have hj : j < E.sz := by rw [← hcl]; exact (List.getElem?_eq_some_iff.1 hu).1
        have := hat j hj
        rw [Go.Deep.add_add] at this
        rw [this, hu]
      · rw [hz]
        exact B.part _ _ _ (List.mem_map_of_mem (List.mem_range.2 hil))
    by_cases hlen : len = 0
    · subst hlen
      exact ⟨[], ⟨by simp [flat], _, _, rfl, Nat.zero_le _, .inl rfl⟩, by simp, by simp [maxLen], fun x hx => by simp at hx⟩
    · -- the address is a plain one
      have hspot : a.spot = none := by
        obtain ⟨x, hx, _⟩ := key 0 (by omega)
        have h0 : 0 < (E.cells x).length := by rw [E.len]; exact hpos
        have := hx 0 _ (List.getElem?_eq_getElem h0)
        simp only [Nat.zero_mul, Nat.add_zero, Addr.add_zero'] at this
        unfold World.cell? at this
        split at this
        · split at this
          · cases this
          · rename_i hs; simpa using hs
        · cases this
      obtain ⟨b, o, sp⟩ := a
      simp only at hspot
      subst hspot
      refine ⟨(List.range len).attach.map fun i => Classical.choose (key i.1 (List.mem_range.1 i.2)), ?_, by simpa using hzl, by simp; omega, fun x hx => ?_⟩
      · refine ⟨by rw [E.flat_len], some ⟨b, o, none⟩, cap, by simp, by simpa using hl, .inr ⟨b, o, rfl, ?_⟩⟩
        intro j u hu
        have hjl : j < len * E.sz := by
          have := (List.getElem?_eq_some_iff.1 hu).1
          rw [E.flat_len] at this
          simpa using this
        have hdiv : j / E.sz < len := Nat.div_lt_of_lt_mul (by rw [Nat.mul_comm]; exact hjl)
        have hmod : j % E.sz < E.sz := Nat.mod_lt _ hpos
        have hget : ((List.range len).attach.map fun i => Classical.choose (key i.1 (List.mem_range.1 i.2)))[j / E.sz]? = some (Classical.choose (key (j / E.sz) hdiv)) := by
          rw [List.getElem?_map, List.getElem?_attach]
          simp [hdiv]
        have hx := (Classical.choose_spec (key (j / E.sz) hdiv)).1
        have hcu : (E.cells (Classical.choose (key (j / E.sz) hdiv)))[j % E.sz]? = some ((E.cells (Classical.choose (key (j / E.sz) hdiv)))[j % E.sz]'(by rw [E.len]; exact hmod)) := List.getElem?_eq_getElem _
        have h1 := flat_get E.cells E.sz E.len _ _ _ hget _ _ hcu
        have hj : j / E.sz * E.sz + j % E.sz = j := by rw [Nat.mul_comm]; exact Nat.div_add_mod j E.sz
        rw [hj] at h1
        have h2 := hx _ _ hcu
        rw [h1] at hu
        rw [Option.some.inj hu, add_at, hj] at h2
        exact h2
      · obtain ⟨i, _, rfl⟩ := List.mem_map.1 hx
        exact (Classical.choose_spec (key i.1 (List.mem_range.1 i.2))).2

/-- A plain thing; its numbers are in their bounds. -/
theorem open_plainB {α : Type} {E : El α} {e : TypeId} {ks : List (Option IntKind)} (T : ElTy P e E ks) (n : Nat) (cs : List Value) (x : DataW H × List MemPlace) (h : DataW.trod enc P w base spare held n e cs = some x) : ∃ a : α, cs = E.cells a ∧ ∀ u ∈ E.cells a, okNum u := by
  obtain ⟨hk, hn⟩ := trod_plain 9 e ks n cs x T.kinds T.size h
  obtain ⟨a, rfl⟩ := T.ofk cs hk
  exact ⟨a, rfl, hn⟩
/-- The argument itself. -/
theorem open_listB {α : Type} {E : El α} {R : α → Nat → Prop} {t e : TypeId} {v : Value} {d : DataW H} {ps : List MemPlace} (hR : ∀ a k k', R a k → k ≤ k' → R a k') (hsz : sizeB P e E.sz = true) (hpos : 0 < E.sz)
    (htr : ∀ n cs x, DataW.trod enc P w base spare held n e cs = some x → ∃ a : α, cs = E.cells a ∧ R a (B.b x.1)) (ht : P.underlying t = some (.slice e))
    {r : Reach} {b0 : Nat} (hv : Value.okWide P w r b0 t v) (h : DataW.Trod enc P w base spare held t v d ps) :
    ∃ l : List α, Rd w E v l ∧ l.length ≤ B.b d ∧ ∀ x ∈ l, R x (B.b d) := by
  obtain ⟨fuel, hf⟩ := h
  obtain ⟨ad, len, cap, rfl⟩ := okWide_slice ht hv
  obtain ⟨v', h1, l, h2, h3, _, h4⟩ := open_csB B hR hsz hpos htr ht hf
  have h1' : [Value.slice ad len cap] = [v'] := h1
  injection h1' with h1' _
  subst h1'
  exact ⟨l, h2, h3, h4⟩
end
theorem okNum_i64 {n : Int} (h : okNum (.int .i64 n)) : -9223372036854775808 ≤ n ∧ n ≤ 9223372036854775807 := by
  have := h .i64 n rfl
  simp [Lit.wf, IntKind.min, IntKind.max, IntKind.signed, IntKind.bits] at this
  exact this
end Go.Sk

/- Opening a config that comes in; what the row's list gives: the table of steps. -/
namespace Go.Proofs.YtcjpnlplibaffaaGreatDoor
open Go Go.Sk Go.ChangeShapes Go.WideShapes Go.ChangeAt Go.RowKit
set_option maxRecDepth 100000

/-! what the bound gives -/
theorem bulk_part {H : Type} {d : DataW H} {l : List (DataW H)} (h : d ∈ l) : Rows.uptoBulk d ≤ Rows.uptoBulkAll l := by
  induction l with
  | nil => cases h
  | cons x r ih =>
    simp only [Rows.uptoBulkAll]
    cases List.mem_cons.1 h with
    | inl e => subst e; omega
    | inr e => have := ih e; omega
theorem bulk_one {H : Type} (d : DataW H) : 1 ≤ Rows.uptoBulk d := by
  cases d with
  | lit l => cases l <;> simp [Rows.uptoBulk]
  | nil => simp [Rows.uptoBulk]
  | ptr d => simp [Rows.uptoBulk]
  | slice elems spare => simp [Rows.uptoBulk]
  | agg parts => simp [Rows.uptoBulk]
  | iface t d => simp [Rows.uptoBulk]
  | map entries => simp [Rows.uptoBulk]
  | held h => simp [Rows.uptoBulk]
theorem bulk_len {H : Type} (l : List (DataW H)) : l.length ≤ Rows.uptoBulkAll l := by
  induction l with
  | nil => simp [Rows.uptoBulkAll]
  | cons x r ih => have := bulk_one x; simp only [Rows.uptoBulkAll, List.length_cons]; omega
theorem bulk_small {H : Type} {l : List (DataW H)} (h : Rows.uptoSmall H l = true) : Rows.uptoBulkAll l ≤ 1048576 := of_decide_eq_true h
def bulkOf (H : Type) : Bulk H where
  b := Rows.uptoBulk
  part es sp d h := by have := bulk_part h; simp only [Rows.uptoBulk]; omega
  len es sp := by have := bulk_len es; simp only [Rows.uptoBulk]; omega
  agg ds d h := by have := bulk_part h; simp only [Rows.uptoBulk]; omega

def poseKs : List (Option IntKind) := [some .i64, some .i64, none]
theorem ofk_cell : ∀ cs, ofKinds cellKs cs = true → ∃ x, cs = elCell.cells x := by
  intro cs h
  match cs, h with
  | [.int .i64 a, .int .i64 b], _ => exact ⟨⟨a, b⟩, rfl⟩
theorem ofk_pose : ∀ cs, ofKinds poseKs cs = true → ∃ x, cs = elPose.cells x := by
  intro cs h
  match cs, h with
  | [.int .i64 a, .int .i64 b, .bool d], _ => exact ⟨⟨⟨a, b⟩, d⟩, rfl⟩
theorem cellElTy : ElTy Tryz.prog 37 elCell cellKs := ⟨by kernel_rfl, by kernel_rfl, rfl, by decide, ofk_cell⟩
theorem poseElTy : ElTy Tryz.prog 39 elPose poseKs := ⟨by kernel_rfl, by kernel_rfl, rfl, by decide, ofk_pose⟩
theorem intElTy : ElTy Tryz.prog 3 elInt [some .i64] := ⟨by kernel_rfl, by kernel_rfl, rfl, by decide, ofk_int⟩

section
variable {H : Type} {enc : TypeId × Value → H} {w : World} {base : Nat} {spare : Nat → Bool} {held : Bool}
theorem open_cell (n : Nat) (cs : List Value) (x : DataW H × List MemPlace) (h : DataW.trod enc Tryz.prog w base spare held n 37 cs = some x) : ∃ a : Cell, cs = a.cells := by
  obtain ⟨a, h, _⟩ := open_plainB cellElTy n cs x h
  exact ⟨a, h⟩
theorem open_stack (n : Nat) (cs : List Value) (x : DataW H × List MemPlace) (h : DataW.trod enc Tryz.prog w base spare held n 119 cs = some x) :
    ∃ a : StackV, cs = elStack.cells a ∧ Rd w elInt a.bins.val a.bins.l ∧ a.bins.l.length ≤ (bulkOf H).b x.1 := by
  obtain ⟨xs, m, _, hx, hl, hlen, hf⟩ := DataW.trod_struct Tryz.underlying119 h
  have hl3 : cs.length = 3 := by rw [hl]; kernel_rfl
  obtain ⟨a, b, c, rfl⟩ : ∃ a b c, cs = [a, b, c] := by
    match cs, hl3 with
    | [a, b, c], _ => exact ⟨a, b, c, rfl⟩
  have hx2 : xs.length = 2 := hlen
  have f0 := hf 0 _ rfl
  have f1 := hf 1 _ rfl
  rw [List.getElem?_eq_getElem (by omega)] at f0 f1
  have g0 : DataW.trod enc Tryz.prog w base spare held m 37 [a, b] = some xs[0] := f0
  have g1 : DataW.trod enc Tryz.prog w base spare held m 27 [c] = some xs[1] := f1
  obtain ⟨p, hp⟩ := open_cell _ _ _ g0
  obtain ⟨v, hv, l, hrd, hll, _, _⟩ := open_csB (bulkOf H) (E := elInt) (R := fun _ _ => True) (fun _ _ _ _ _ => trivial) (by kernel_rfl) (by decide) (fun n cs x h => let ⟨a, h, _⟩ := open_plainB intElTy n cs x h; ⟨a, h, trivial⟩) Tryz.underlying27 g1
  obtain ⟨ad, cap, rfl⟩ := hrd.vee
  injection hp with h1 hp
  injection hp with h2 _
  injection hv with hv _
  subst h1 h2 hv
  refine ⟨⟨p, ⟨ad, l, cap⟩⟩, rfl, hrd, Nat.le_trans hll ?_⟩
  rw [hx]
  exact (bulkOf H).agg _ _ (List.mem_map_of_mem (List.getElem_mem _))
set_option maxHeartbeats 1000000 in
/-- A config, with the bound on what it holds. -/
theorem open_conf (n : Nat) (cs : List Value) (x : DataW H × List MemPlace) (h : DataW.trod enc Tryz.prog w base spare held n 26 cs = some x) :
    ∃ c : ConfV, cs = c.cells ∧ Has w (rConf c) ∧ (∀ p ∈ c.robots.l, PoseWf p) ∧ ((bulkOf H).b x.1 ≤ 1048576 → Upto c) := by
  obtain ⟨xs, m, _, hx, hl, hlen, hf⟩ := DataW.trod_struct Tryz.underlying26 h
  have hl16 : cs.length = 16 := by rw [hl]; kernel_rfl
  obtain ⟨c0, c1, c2, c3, c4, c5, c6, c7, c8, c9, c10, c11, c12, c13, c14, c15, rfl⟩ : ∃ c0 c1 c2 c3 c4 c5 c6 c7 c8 c9 c10 c11 c12 c13 c14 c15, cs = [c0, c1, c2, c3, c4, c5, c6, c7, c8, c9, c10, c11, c12, c13, c14, c15] := by
    match cs, hl16 with
    | [c0, c1, c2, c3, c4, c5, c6, c7, c8, c9, c10, c11, c12, c13, c14, c15], _ => exact ⟨_, _, _, _, _, _, _, _, _, _, _, _, _, _, _, _, rfl⟩
  have hx16 : xs.length = 16 := hlen
  have hget : ∀ i, i < 16 → ∃ y, xs[i]? = some y ∧ (bulkOf H).b y.1 ≤ (bulkOf H).b x.1 := fun i hi => ⟨xs[i]'(by omega), List.getElem?_eq_getElem _, by rw [hx]; exact (bulkOf H).agg _ _ (List.mem_map_of_mem (List.getElem_mem _))⟩
  have num : ∀ i c, DataW.trod enc Tryz.prog w base spare held m 3 [c] = xs[i]? → i < 16 → ∃ k, c = .int .i64 k := fun i c hh hi => by
    obtain ⟨y, hy, _⟩ := hget i hi
    obtain ⟨k, hk, _, _⟩ := DataW.trod_int Tryz.underlying3 (hh.trans hy)
    injection hk with hk _
    exact ⟨k, hk⟩
  obtain ⟨k0, rfl⟩ := num 0 c0 (hf 0 _ rfl) (by decide)
  obtain ⟨k1, rfl⟩ := num 1 c1 (hf 1 _ rfl) (by decide)
  obtain ⟨k2, rfl⟩ := num 2 c2 (hf 2 _ rfl) (by decide)
  obtain ⟨k7, rfl⟩ := num 7 c7 (hf 7 _ rfl) (by decide)
  obtain ⟨k8, rfl⟩ := num 8 c8 (hf 8 _ rfl) (by decide)
  obtain ⟨k9, rfl⟩ := num 9 c9 (hf 9 _ rfl) (by decide)
  obtain ⟨k10, rfl⟩ := num 10 c10 (hf 10 _ rfl) (by decide)
  obtain ⟨k11, rfl⟩ := num 11 c11 (hf 11 _ rfl) (by decide)
  obtain ⟨k12, rfl⟩ := num 12 c12 (hf 12 _ rfl) (by decide)
  obtain ⟨k13, rfl⟩ := num 13 c13 (hf 13 _ rfl) (by decide)
  obtain ⟨k14, rfl⟩ := num 14 c14 (hf 14 _ rfl) (by decide)
  obtain ⟨y3, e3, b3⟩ := hget 3 (by decide)
  obtain ⟨y4, e4, b4⟩ := hget 4 (by decide)
  obtain ⟨y5, e5, b5⟩ := hget 5 (by decide)
  obtain ⟨y6, e6, b6⟩ := hget 6 (by decide)
  obtain ⟨y15, e15, b15⟩ := hget 15 (by decide)
  have g3 : DataW.trod enc Tryz.prog w base spare held m 22 [c3] = some y3 := (hf 3 _ rfl).trans e3
  have g4 : DataW.trod enc Tryz.prog w base spare held m 22 [c4] = some y4 := (hf 4 _ rfl).trans e4
  have g5 : DataW.trod enc Tryz.prog w base spare held m 23 [c5] = some y5 := (hf 5 _ rfl).trans e5
  have g6 : DataW.trod enc Tryz.prog w base spare held m 24 [c6] = some y6 := (hf 6 _ rfl).trans e6
  have g15 : DataW.trod enc Tryz.prog w base spare held m 4 [c15] = some y15 := (hf 15 _ rfl).trans e15
  obtain ⟨k15, hk15, _⟩ := DataW.trod_bool Tryz.underlying4 g15
  injection hk15 with hk15 _
  subst hk15
  obtain ⟨v3, hv3, l3, hr3, hl3, _, _⟩ := open_csB (bulkOf H) (E := elCell) (R := fun _ _ => True) (fun _ _ _ _ _ => trivial) (by kernel_rfl) (by decide) (fun n cs x h => let ⟨a, h, _⟩ := open_plainB cellElTy n cs x h; ⟨a, h, trivial⟩) Tryz.underlying22 g3
  obtain ⟨v4, hv4, l4, hr4, hl4, _, _⟩ := open_csB (bulkOf H) (E := elCell) (R := fun _ _ => True) (fun _ _ _ _ _ => trivial) (by kernel_rfl) (by decide) (fun n cs x h => let ⟨a, h, _⟩ := open_plainB cellElTy n cs x h; ⟨a, h, trivial⟩) Tryz.underlying22 g4
  obtain ⟨v5, hv5, l5, hr5, hl5, _, hn5⟩ := open_csB (bulkOf H) (E := elPose) (R := fun p _ => ∀ u ∈ elPose.cells p, okNum u) (fun _ _ _ h _ => h) (by kernel_rfl) (by decide) (fun n cs x h => open_plainB poseElTy n cs x h) Tryz.underlying23 g5
  obtain ⟨v6, hv6, l6, hr6, hl6, _, hn6⟩ := open_csB (bulkOf H) (E := elStack) (R := fun a k => Rd w elInt a.bins.val a.bins.l ∧ a.bins.l.length ≤ k) (fun _ _ _ h hk => ⟨h.1, Nat.le_trans h.2 hk⟩) (by kernel_rfl) (by decide) (fun n cs x h => open_stack n cs x h) Tryz.underlying24 g6
  obtain ⟨a3, n3, rfl⟩ := hr3.vee
  obtain ⟨a4, n4, rfl⟩ := hr4.vee
  obtain ⟨a5, n5, rfl⟩ := hr5.vee
  obtain ⟨a6, n6, rfl⟩ := hr6.vee
  injection hv3 with hv3 _
  injection hv4 with hv4 _
  injection hv5 with hv5 _
  injection hv6 with hv6 _
  subst hv3 hv4 hv5 hv6
  refine ⟨⟨k0, k1, k2, ⟨a3, l3, n3⟩, ⟨a4, l4, n4⟩, ⟨a5, l5, n5⟩, ⟨a6, l6, n6⟩, k7, k8, k9, k10, k11, k12, k13, k14, k15⟩, rfl, ?_, fun p hp => ?_, fun hb => ?_⟩
  · refine Has.all.2 fun r hr => ?_
    simp only [List.mem_cons, List.not_mem_nil, or_false] at hr
    rcases hr with rfl | rfl | rfl | rfl
    · exact hr3.has
    · exact hr4.has
    · exact hr5.has
    · refine Has.two.2 ⟨hr6.has, Has.all.2 fun r hr => ?_⟩
      obtain ⟨s, hs, rfl⟩ := List.mem_map.1 hr
      exact (hn6 s hs).1.has
  · have h0 := hn5 p hp
    exact ⟨okNum_i64 (h0 (.int .i64 p.at_.x) (by simp [Pose.cells])), okNum_i64 (h0 (.int .i64 p.at_.y) (by simp [Pose.cells]))⟩
  · exact ⟨by show l3.length ≤ _; omega, by show l4.length ≤ _; omega, by show l5.length ≤ _; omega, by show l6.length ≤ _; omega, fun s hs => by have := (hn6 s hs).2; omega⟩
theorem open_confA {v : Value} {d : DataW H} {ps : List MemPlace} {r : Reach} {b0 : Nat} (hv : Value.okWide Tryz.prog w r b0 26 v) (h : DataW.Trod enc Tryz.prog w base spare held 26 v d ps) :
    ∃ c : ConfV, v = .agg c.cells.toArray ∧ Has w (rConf c) ∧ (∀ p ∈ c.robots.l, PoseWf p) ∧ ((bulkOf H).b d ≤ 1048576 → Upto c) := by
  obtain ⟨fuel, hf⟩ := h
  obtain ⟨cs, rfl, hsz⟩ := okWide_struct Tryz.underlying26 hv
  obtain ⟨c, hc, h1, h2, h3⟩ := open_conf fuel _ _ hf
  have hc' : cs.toList = c.cells := hc
  exact ⟨c, by rw [← hc'], h1, h2, h3⟩
end

/-! the table of steps -/
theorem gSteps : Tryz.prog.globalNamed "skep/grid.steps" = some 0 := by kernel_rfl
theorem gStepsType : (Tryz.prog.globals[0]?).map (·.type) = some 150 := by kernel_rfl
theorem cell_is {P : Nat → Bool} {w : World} {held : Bool} {m : Nat} {a b : Value} {x y : Int} {p : List MemPlace} (h : DataW.trod (H := Unit) (fun _ => ()) Tryz.prog w 0 P held m 37 [a, b] = some (.agg [.lit (.int .i64 x), .lit (.int .i64 y)], p)) : a = .int .i64 x ∧ b = .int .i64 y := by
  obtain ⟨xs, n, _, hx, _, hlen, hf⟩ := DataW.trod_struct Tryz.underlying37 h
  have hx2 : xs.length = 2 := hlen
  have f0 := hf 0 _ rfl
  have f1 := hf 1 _ rfl
  match xs, hx2 with
  | [y0, y1], _ =>
    have g0 : DataW.trod (fun _ => ()) Tryz.prog w 0 P held n 3 [a] = some y0 := f0
    have g1 : DataW.trod (fun _ => ()) Tryz.prog w 0 P held n 3 [b] = some y1 := f1
    obtain ⟨k0, hk0, e0, _⟩ := DataW.trod_int Tryz.underlying3 g0
    obtain ⟨k1, hk1, e1, _⟩ := DataW.trod_int Tryz.underlying3 g1
    injection hk0 with hk0 _
    injection hk1 with hk1 _
    injection hx with hx _
    injection hx with hx
    simp only [List.map_cons, List.map_nil] at hx
    injection hx with h1 hx
    injection hx with h2 _
    have i0 : y0.1 = .lit (.int .i64 k0) := by rw [e0]
    have i1 : y1.1 = .lit (.int .i64 k1) := by rw [e1]
    rw [i0] at h1
    rw [i1] at h2
    injection h1 with h1
    injection h2 with h2
    injection h1 with _ h1
    injection h2 with _ h2
    exact ⟨by rw [hk0, h1], by rw [hk1, h2]⟩
theorem steps_of_laid {W : World} (h : laidMetH Tryz.prog [("skep/grid.steps", Rows.laid_skep_grid_steps)] W) : Has W stepsR := by
  have h' : laidMet Tryz.prog [("skep/grid.steps", Rows.laid_skep_grid_steps)] W := h
  obtain ⟨ps, ⟨g', t', cs, fuel, p, q, hg', ht', hvar, hd, _, _⟩, _⟩ := h'
  obtain rfl := Option.some.inj (gSteps.symm.trans hg')
  obtain rfl := Option.some.inj (gStepsType.symm.trans ht')
  obtain ⟨xs, m, _, hx, hl, hlen, hf⟩ := DataW.trod_array Tryz.underlying150 hd
  have hl8 : cs.toList.length = 8 := by rw [hl]; kernel_rfl
  obtain ⟨a0, a1, a2, a3, a4, a5, a6, a7, hcs⟩ : ∃ a0 a1 a2 a3 a4 a5 a6 a7, cs.toList = [a0, a1, a2, a3, a4, a5, a6, a7] := by
    match cs.toList, hl8 with
    | [a0, a1, a2, a3, a4, a5, a6, a7], _ => exact ⟨_, _, _, _, _, _, _, _, rfl⟩
  match xs, hlen with
  | [y0, y1, y2, y3], _ =>
    have hce : Tryz.prog.cellsOf 37 = 2 := by kernel_rfl
    rw [hce, hcs] at hf
    injection hx with hx _
    simp only [Rows.laid_skep_grid_steps] at hx
    injection hx with hx
    simp only [List.map_cons, List.map_nil] at hx
    injection hx with h0 hx
    injection hx with h1 hx
    injection hx with h2 hx
    injection hx with h3 _
    have f0 : DataW.trod (fun _ => ()) Tryz.prog W 0 (fun _ => true) false m 37 [a0, a1] = some (y0.1, y0.2) := hf 0 (by decide)
    have f1 : DataW.trod (fun _ => ()) Tryz.prog W 0 (fun _ => true) false m 37 [a2, a3] = some (y1.1, y1.2) := hf 1 (by decide)
    have f2 : DataW.trod (fun _ => ()) Tryz.prog W 0 (fun _ => true) false m 37 [a4, a5] = some (y2.1, y2.2) := hf 2 (by decide)
    have f3 : DataW.trod (fun _ => ()) Tryz.prog W 0 (fun _ => true) false m 37 [a6, a7] = some (y3.1, y3.2) := hf 3 (by decide)
    rw [← h0] at f0
    rw [← h1] at f1
    rw [← h2] at f2
    rw [← h3] at f3
    obtain ⟨rfl, rfl⟩ := cell_is f0
    obtain ⟨rfl, rfl⟩ := cell_is f1
    obtain ⟨rfl, rfl⟩ := cell_is f2
    obtain ⟨rfl, rfl⟩ := cell_is f3
    refine At.has (fun j u hu => ?_) (by simp)
    have := World.var?_cell gSteps hvar j
    rw [Nat.zero_add, this, ← Array.getElem?_toList, hcs]
    exact hu
/-- A world for the witness: the settled one, the table laid. -/
noncomputable def laidWorld (os : Os) : World :=
  { World.holding Tryz.prog os ⟨#[], #[], []⟩ with heap := (World.holding Tryz.prog os ⟨#[], #[], []⟩).heap.modify 0 fun
      | .cells _ t frozen => .cells #[.int .i64 0, .int .i64 (-1), .int .i64 1, .int .i64 0, .int .i64 0, .int .i64 1, .int .i64 (-1), .int .i64 0] t frozen
      | o => o }
def zeroConf : Value := .agg #[.int .i64 0, .int .i64 0, .int .i64 0, .slice none 0 0, .slice none 0 0, .slice none 0 0, .slice none 0 0, .int .i64 0, .int .i64 0, .int .i64 0, .int .i64 0, .int .i64 0, .int .i64 0, .int .i64 0, .int .i64 0, .bool false]
def zeroCell : Value := .agg #[.int .i64 0, .int .i64 0]
end Go.Proofs.YtcjpnlplibaffaaGreatDoor

/- What is there, found by its place among the things that are known. -/
namespace Go.Sk
open Go

theorem Ix.mem {M : List Res} {r : Res} {i : Nat} (h : Ix M r i) : r ∈ M := by
  induction h with
  | head => exact List.mem_cons_self
  | tail _ ih => exact List.mem_cons_of_mem _ ih
section
variable {w0 w : World} {F : Nat → Prop} {M L : List Res} {r : Res}
theorem Know.own {i : Nat} (h : Know w0 w F M L) (hi : Ix M r i := by repeat (first | exact Ix.head | apply Ix.tail)) : Has w r := h.get (List.mem_append_left _ hi.mem)
theorem Know.lent {i : Nat} (h : Know w0 w F M L) (hi : Ix L r i := by repeat (first | exact Ix.head | apply Ix.tail)) : Has w r := h.has hi.mem
/-- A call that turns one thing of one's own, found by its place. -/
theorem Know.callsI {P : Program} {f : FuncId} {args : Array Value} {r' : Res} {v : Value} {i : Nat} (h : Know w0 w F M L)
    (hc : ∀ S, r.p w S → Calls P f args w fun e w' => e = .returned v ∧ Turn r' w w' S) (hi : Ix M r i := by repeat (first | exact Ix.head | apply Ix.tail)) : Calls P f args w fun e w' => e = .returned v ∧ Know w0 w' F (M.set i r') L := by
  obtain ⟨S, h1, h2⟩ := h.stepI hi
  exact (hc S h1).mono fun e w' ⟨he, ht⟩ => ⟨he, h2 w' r' ht⟩
theorem Know.callsJ {P : Program} {f : FuncId} {args : Array Value} {r' : Res} {v : Value} {i : Nat} (h : Know w0 w F M L) (hi : Ix M r i)
    (hc : ∀ S, r.p w S → Calls P f args w fun e w' => e = .returned v ∧ Turn r' w w' S) : Calls P f args w fun e w' => e = .returned v ∧ Know w0 w' F (M.set i r') L := h.callsI hc hi
end
end Go.Sk

/- A slice of one's own whose elements may be whatever: they may be written. -/
namespace Go.Sk
open Go

/-- n elements, whatever they are. -/
@[irreducible] def rSome {α : Type} (e : TypeId) (E : El α) (v : Value) (n : Nat) : Res where
  p w S := ∃ xs : List α, xs.length = n ∧ (rOw e E v xs).p w S
  loc := by rintro w w' S ⟨xs, h1, h2⟩ he; exact ⟨xs, h1, (rOw e E v xs).loc h2 he⟩
  lt := by rintro w S ⟨xs, _, h2⟩; exact (rOw e E v xs).lt h2
section
variable {α : Type} {E : El α} {e : TypeId} {w0 w : World} {F : Nat → Prop} {M L : List Res}
theorem rSome_p {v : Value} {n : Nat} {S : Nat → Prop} : (rSome e E v n).p w S ↔ ∃ xs : List α, xs.length = n ∧ (rOw e E v xs).p w S := by unfold rSome; exact Iff.rfl
theorem rOw_some {v : Value} {xs : List α} {n : Nat} (hn : xs.length = n) {S : Nat → Prop} (h : (rOw e E v xs).p w S) : (rSome e E v n).p w S := rSome_p.2 ⟨xs, hn, h⟩
theorem Sep.mapMono {β : Type} {f g : β → Res} (hfg : ∀ x w S, (f x).p w S → (g x).p w S) : ∀ {l : List β} {S : Nat → Prop}, Sep w (l.map f) S → Sep w (l.map g) S
  | [], _, h => h
  | x :: l, _, ⟨S, V, h1, h2, h3, h4⟩ => ⟨S, V, hfg x w S h1, Sep.mapMono hfg h2, h3, h4⟩
/-- One thing of one's own is seen otherwise. -/
theorem Know.seen {r r' : Res} {i : Nat} (h : Know w0 w F M L) (ho : ∀ w S, r.p w S → r'.p w S) (hi : Ix M r i := by repeat (first | exact Ix.head | apply Ix.tail)) : Know w0 w F (M.set i r') L := by
  obtain ⟨S, h1, h2⟩ := h.stepI hi
  exact h2 w r' ⟨Mod.refl _ _, S, ho w S h1, fun _ h => .inl h⟩
variable {P : Program} {ops : Array Oper} {rest : List Oper} {o : Oper} {a : Act} {Q : Exit → Act → World → Prop}
/-- Its j-th place. -/
theorem wl_ixAny {t e' : TypeId} {x y : Operand} {n c i j : Nat} {ad : Option Addr} {kd : IntKind} (hK : Know w0 w F M L) (ho : o.op = .indexAddr t x y) (hw : Region.wanted o (yielded ops a.tmps) = true) (hx : a.eval x = .slice ad n c) (hy : a.eval y = .int kd (i : Int))
    (ht : P.underlying t = some (.slice e')) (hsz : sizeB P e' E.sz = true) (hlt : i < n)
    (hi : Ix M (rSome e E (.slice ad n c) n) j := by repeat (first | exact Ix.head | apply Ix.tail))
    (h : ∀ b k, Spot E (.slice ad n c) b k i → wpList P ops Q rest (a.put o.dst (.pointer (some ⟨b, k, none⟩))) w) : wpList P ops Q (o :: rest) a w := by
  obtain ⟨S, h1, _⟩ := hK.stepI hi
  obtain ⟨xs, hn, hO⟩ := rSome_p.1 h1
  obtain ⟨u, hu⟩ : ∃ u, xs[i]? = some u := ⟨_, List.getElem?_eq_getElem (by omega)⟩
  obtain ⟨b, rfl, hat⟩ := (rOw_p.1 hO).1.elem hu
  refine wl_indexAddr (b := b) (k := 0) ho hw hx hy ht hsz (Int.natCast_nonneg i) (by omega) ?_
  rw [Int.toNat_natCast, Nat.zero_add]
  exact h b _ ⟨rfl, rfl⟩
/-- It is written. -/
theorem wl_storeAny {t : TypeId} {x y : Operand} {b k i j : Nat} {v : Value} {ad : Option Addr} {n c : Nat} (u : α) (hK : Know w0 w F M L) (ho : o.op = .store t x y) (hw : Region.wanted o (yielded ops a.tmps) = true) (hx : a.eval x = .pointer (some ⟨b, k, none⟩)) (hy : a.eval y = v)
    (ht : sizeB P t E.sz = true) (hs : Spot E (.slice ad n c) b k i) (hlt : i < n)
    (hi : Ix M (rSome e E (.slice ad n c) n) j := by repeat (first | exact Ix.head | apply Ix.tail))
    (hv : (v = .agg (E.cells u).toArray) ∨ (E.sz = 1 ∧ [v] = E.cells u) := by first | exact .inl rfl | exact .inr ⟨rfl, rfl⟩)
    (h : ∀ w', Know w0 w' F (M.set j (rSome e E (.slice ad n c) n)) L → wpList P ops Q rest (a.put o.dst undef) w') : wpList P ops Q (o :: rest) a w := by
  obtain ⟨S, h1, h2⟩ := hK.stepI hi
  obtain ⟨xs, hn, hO⟩ := rSome_p.1 h1
  obtain ⟨hOw, rfl⟩ := rOw_p.1 hO
  obtain ⟨hb, rfl⟩ := hs
  obtain ⟨cur, hB, hlen, hset⟩ := hOw.cell_set hb rfl (show i < xs.length by omega)
  have hfin : ∀ w', Blk w' b (cur.take (i * E.sz) ++ E.cells u ++ cur.drop (i * E.sz + E.sz)) e → Mod (only b) w w' → wpList P ops Q rest (a.put o.dst undef) w' := fun w' hB' m =>
    h w' (h2 w' _ ⟨m.mono fun b' hb' => by cases hb'; exact hb, _, rSome_p.2 ⟨xs.set i u, by simpa using hn, rOw_p.2 ⟨hset w' u hB', rfl⟩⟩, fun _ h => .inl h⟩)
  rcases hv with rfl | ⟨h1, hv⟩
  · exact wl_storeS ho hw hx hy ht (E.len u) (E.one u) hB hlen hfin
  · rw [← hv] at hfin
    have hE : E.sz = 1 := h1
    have hset2 : cur.set (i * E.sz) v = cur.take (i * E.sz) ++ [v] ++ cur.drop (i * E.sz + E.sz) := by
      rw [List.set_eq_take_append_cons_drop, if_pos (by omega), hE]; simp
    refine wl_store ho hw hx hy (by rw [hE] at ht; exact ht) ?_ hB (by omega) fun w' hB' m => hfin w' (by rw [hset2] at hB'; exact hB') m
    exact E.one u v (by rw [← hv]; simp)
end
end Go.Sk
