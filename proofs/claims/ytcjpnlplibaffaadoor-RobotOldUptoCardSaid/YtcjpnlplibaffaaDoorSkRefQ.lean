/- Slices that are cut with their room and grown anew; a field of an element that is written; a callee with what it may read. -/
import Derived.Test.YtcjpnlplibaffaaDoorStC
import Derived.ArgAppend
set_option linter.all false
namespace Go.Sk
open Go

section
variable {P : Program} {ops : Array Oper} {rest : List Oper} {o : Oper} {a : Act} {w0 w : World} {F : Nat → Prop} {M L : List Res} {Q : Exit → Act → World → Prop}
/-- s[:h:m], its very value. -/
theorem wl_slice3 {t e : TypeId} {x y z : Operand} {h m n c sz : Nat} {ad : Option Addr} {k2 k3 : IntKind}
    (ho : o.op = .slice t x none (some y) (some z)) (hw : Region.wanted o (yielded ops a.tmps) = true) (hx : a.eval x = .slice ad n c) (hy : a.eval y = .int k2 (h : Int)) (hz : a.eval z = .int k3 (m : Int))
    (ht : P.underlying t = some (.slice e)) (hsz : sizeB P e sz = true) (h1 : h ≤ m) (h2 : m ≤ c)
    (hq : wpList P ops Q rest (a.put o.dst (.slice ad h m)) w) : wpList P ops Q (o :: rest) a w := by
  have hr : (Instr.sliceAt t (.slice ad n c) none (some (.int k2 (h : Int))) (some (.int k3 (m : Int)))).run P w = .ok (.slice ad h m) w := by
    have e1 : (if m = 0 then ad else ad.map (·.add (0 * sz))) = ad := by
      split
      · rfl
      · cases ad with
        | none => rfl
        | some x => simp [Addr.add_zero']
    have : (Instr.sliceAt t (.slice ad n c) none (some (.int k2 (h : Int))) (some (.int k3 (m : Int)))).run P w = .ok (.slice (if m = 0 then ad else ad.map (·.add (0 * sz))) h m) w := by
      simp [Instr.sliceAt, Instr.slice, Instr.sliceBounds, Instr.sliceBound, asIntOf, run_underlying ht, run_sizeOf hsz, h1, h2]
    rw [e1] at this
    exact this
  refine wl_val hw (w' := w) (v := .slice ad h m) ?_ hq
  simp only [execOp, ho, hx]
  rw [Sem.run_bind]
  show (Sem.run P (Instr.sliceAt t (.slice ad n c) none (some (a.eval y)) (some (a.eval z))) w).andThen _ = _
  rw [hy, hz, hr]
  rfl
/-- A part from the head reads so. -/
theorem Rd.head {α : Type} {E : El α} {ad : Option Addr} {n c : Nat} {l : List α} (h : Rd w E (.slice ad n c) l) {k m : Nat} (hk : k ≤ l.length) (hm : k ≤ m) : Rd w E (.slice ad k m) (l.take k) := by
  have e : (l.take k).length = k := by rw [List.length_take]; omega
  obtain ⟨h1, ad', c', h2, h3, h4⟩ := h
  injection h2 with h2 h5 h6
  subst h2 h6
  unfold Rd
  rw [e]
  refine ⟨by rw [E.flat_len, e], ad, m, rfl, hm, ?_⟩
  rcases h4 with h4 | ⟨b, o, rfl, hat⟩
  · left; omega
  · right
    refine ⟨b, o, rfl, ?_⟩
    rw [flat_take E.cells E.sz E.len]
    exact hat.take _
/-- .. all of it, without room. -/
theorem Rd.snug {α : Type} {E : El α} {ad : Option Addr} {n c : Nat} {l : List α} (h : Rd w E (.slice ad n c) l) : Rd w E (.slice ad n n) l := by
  have hn := h.n
  have := h.head (k := n) (m := n) (by omega) (Nat.le_refl _)
  rwa [List.take_of_length_le (by omega)] at this
/-- append to what has no room left. -/
theorem wl_appG {α : Type} {E : El α} {s x : Operand} {t e : TypeId} {zs : List Value} {bytes n : Nat} {ad : Option Addr} {y : Value} {xs ys : List α} (hK : Know w0 w F M L) (T : SliceTy P t e E.sz bytes zs)
    (ho : o.op = .call { callee := .builtin .append, args := #[s, x], argTypes := #[t, t] }) (hw : Region.wanted o (yielded ops a.tmps) = true) (hs : a.eval s = .slice ad n n) (hx : a.eval x = y)
    (hxs : Rd w E (.slice ad n n) xs) (hsl : Rd w E y ys) (hne : ys ≠ []) (hm : xs.length + ys.length ≤ maxLen) (hb : (xs.length + ys.length) * bytes ≤ 140737488355328)
    (h : ∀ ad' N c w', N = (xs ++ ys).length → Know w0 w' F (rOw e E (.slice ad' N c) (xs ++ ys) :: M) L → wpList P ops Q rest (a.put o.dst (.slice ad' N c)) w') : wpList P ops Q (o :: rest) a w := by
  have hn := hxs.n
  obtain ⟨i, z, hi, hz, hzs, hsize, hby⟩ := T.ex
  obtain ⟨x1, xad, xc, rfl, x3, x4⟩ := hsl
  have hyl : ys.length ≠ 0 := fun h => hne (List.eq_nil_of_length_eq_zero h)
  rcases x4 with x4 | ⟨b, o2, rfl, hat⟩
  · exact absurd x4 hyl
  · have hsl2 : Rd w E (.slice (some ⟨b, o2, none⟩) ys.length xc) ys := ⟨x1, _, _, rfl, x3, .inr ⟨b, o2, rfl, hat⟩⟩
    cases ad with
    | none =>
      have h0 : n = 0 := by
        obtain ⟨_, ad', c', h2, _, h4⟩ := hxs
        injection h2 with h2 h5 h6
        rcases h4 with h4 | ⟨b', o', h4, _⟩
        · omega
        · rw [← h2] at h4; cases h4
      subst h0
      have hx0 : xs = [] := List.eq_nil_of_length_eq_zero hn.symm
      subst hx0
      refine wl_appN hK T ho hw hs hx hsl2 (by simpa using hm) (by simpa using hb) fun ad' N c w' k1 k2 => h ad' N c w' (by simpa using k1) (by simpa using k2)
    | some b0 =>
      have hold : ∀ j u, (flat E.cells xs)[j]? = some u → w.cell? (b0.add j) = some u := by
        obtain ⟨hxl, ad', c', h2, _, h4⟩ := hxs
        injection h2 with h2 h5 h6
        rcases h4 with h4 | ⟨b', o', h4, hat'⟩
        · intro j u hu
          rw [List.eq_nil_of_length_eq_zero h4] at hu
          simp [flat] at hu
        · rw [← h2] at h4
          injection h4 with h4
          subst h4
          intro j u hu
          rw [add_at]
          exact hat' j u hu
      subst hn
      obtain ⟨v', w', hr, ho', hg⟩ := run_append_arg_grows (P := P) w t o.type e i z E.sz bytes T.und hi hz hsize hby (by rw [hzs]; simp [T.len]) T.pos b0 xs.length xs.length (flat E.cells xs) (E.flat_len xs) hold ⟨b, o2, none⟩ ys.length xc (flat E.cells ys) x1 (fun j u hu => by rw [add_at]; exact hat j u hu) (by omega) hm hb
      rw [← flat_append, ← List.length_append] at ho'
      have hw0 : Own w' e E.sz v' (xs ++ ys).length (flat E.cells (xs ++ ys)) := by
        refine ⟨ho'.1, ?_⟩
        rcases ho'.2 with h0 | ⟨g, cap, cur, h2, h3, h4⟩
        · exact .inl h0
        · exact .inr ⟨g, cap, cur, h2, Nat.zero_le _, h4⟩
      have hOw : Ow w' e E v' (xs ++ ys) := hw0
      obtain ⟨ad', c', rfl⟩ := hOw.vee
      refine wl_val hw (v := .slice ad' (xs ++ ys).length c') (w' := w') ?_ (h _ _ _ w' rfl (hK.push1 (Turn.own hOw (Mod.of_grown hg fun b hb => by cases hb) fun b' hb' => ?_)))
      · unfold execOp
        simp only [ho, resolve, invoke, builtin, Sem.run_bind, Sem.run_pure, Result.andThen_ok, List.map_toArray, List.map_cons, List.map_nil, hs, hx, hr]
      · rcases ho'.2 with ⟨h0, _⟩ | ⟨g, cap, cur, h2, h3, h4⟩
        · rw [h0] at hb'; cases hb'
        · rw [h2] at hb'
          simp only [Value.ownBlock, Option.some.injEq] at hb'
          omega
/-- A field of an element is written. -/
theorem wl_storeF {α : Type} {E : El α} {t e : TypeId} {x y : Operand} {b k i j d : Nat} {v : Value} {ad : Option Addr} {n c : Nat} {xs : List α} {u : α} (u' : α) (hK : Know w0 w F M L) (ho : o.op = .store t x y) (hw : Region.wanted o (yielded ops a.tmps) = true) (hx : a.eval x = .pointer (some ⟨b, k + d, none⟩)) (hy : a.eval y = v)
    (ht : sizeB P t 1 = true) (hv : v.oneCell' = true) (hs : Spot E (.slice ad n c) b k i) (hd : d < E.sz)
    (hu : RowKit.Hid (xs[i]? = some u)) (hc : E.cells u' = (E.cells u).set d v)
    (hi : Ix M (rOw e E (.slice ad n c) xs) j := by repeat (first | exact Ix.head | apply Ix.tail))
    (h : ∀ w', Know w0 w' F (M.set j (rOw e E (.slice ad n c) (xs.set i u'))) L → wpList P ops Q rest (a.put o.dst undef) w') : wpList P ops Q (o :: rest) a w := by
  obtain ⟨S, h1, h2⟩ := hK.stepI hi
  obtain ⟨hO, rfl⟩ := rOw_p.1 h1
  obtain ⟨hb, rfl⟩ := hs
  have hlt : i < xs.length := (List.getElem?_eq_some_iff.1 hu.out).1
  obtain ⟨cur, hB, hlen, hset⟩ := hO.cell_set hb rfl hlt
  obtain ⟨b', hb2, hat⟩ := hO.elem hu.out
  have hbb : b = b' := by
    rw [hb2] at hb
    simp only [Value.ownBlock, Option.some.injEq] at hb
    exact hb.symm
  subst hbb
  have hmid : (cur.drop (i * E.sz)).take E.sz = E.cells u := by
    apply List.ext_getElem?
    intro q
    rw [List.getElem?_take]
    by_cases hq : q < E.sz
    · rw [if_pos hq, List.getElem?_drop]
      have hlq : q < (E.cells u).length := by rw [E.len]; exact hq
      have h3 := hat q _ (List.getElem?_eq_getElem hlq)
      rw [hB.cell] at h3
      rw [h3, List.getElem?_eq_getElem hlq]
    · rw [if_neg hq, List.getElem?_eq_none (by rw [E.len]; omega)]
  have he : cur.set (i * E.sz + d) v = cur.take (i * E.sz) ++ E.cells u' ++ cur.drop (i * E.sz + E.sz) := by
    rw [hc, ← hmid]
    have hcut : cur = cur.take (i * E.sz) ++ ((cur.drop (i * E.sz)).take E.sz ++ cur.drop (i * E.sz + E.sz)) := by
      rw [← List.drop_drop, List.take_append_drop, List.take_append_drop]
    have l1 : (cur.take (i * E.sz)).length = i * E.sz := by rw [List.length_take]; omega
    have l2 : ((cur.drop (i * E.sz)).take E.sz).length = E.sz := by rw [List.length_take, List.length_drop]; omega
    conv => lhs; rw [hcut]
    rw [List.set_append, if_neg (by omega), l1, List.set_append, if_pos (by omega), List.append_assoc]
    congr 3
    omega
  exact wl_store ho hw hx hy ht hv hB (by omega) fun w' hB' m => by
    rw [he] at hB'
    exact h w' (h2 w' _ ⟨m.mono fun b' hb' => by cases hb'; exact hb, _, rOw_p.2 ⟨hset w' u' hB', rfl⟩, fun _ h => .inl h⟩)
end
/-- A callee that turns one thing, and reads what is read. -/
theorem Know.callsK {P : Program} {f : FuncId} {args : Array Value} {w0 w : World} {F : Nat → Prop} {M L : List Res} {r r' : Res} {v : Value} {i : Nat} (h : Know w0 w F M L) (hi : Ix M r i)
    (hc : ∀ S, Know w w S [r] L → Calls P f args w fun e w' => e = .returned v ∧ Turn r' w w' S) : Calls P f args w fun e w' => e = .returned v ∧ Know w0 w' F (M.set i r') L := by
  obtain ⟨A, B, rfl, hs⟩ := hi.hole
  have hK := h
  obtain ⟨hm, U, h1, h2, h3⟩ := h
  obtain ⟨S, k1, k2, k3⟩ := h1.hole
  refine (hc S (Know.start1 k1 fun r hr => ?_)).mono fun e w' ⟨he, ht⟩ => ⟨he, ?_⟩
  · obtain ⟨T, i1, i2⟩ := h3 r hr
    exact ⟨T, i1, fun b hb hs => i2 b hb (k2 b hs)⟩
  · obtain ⟨U', j1, j2⟩ := k3 w' [r'] ht.s
    rw [hs]
    refine ⟨hm.drop ht.1 fun b hb => h2 b (k2 b hb), U', j1, fun b hb => ?_, fun r hr => ?_⟩
    · rcases j2 b hb with h | h
      · exact h2 b h
      · right; have := hm.size; omega
    · obtain ⟨T, i1, i2⟩ := h3 r hr
      refine ⟨T, r.mod i1 ht.1 fun b hb hs => i2 b hb (k2 b hs), fun b hb hu => ?_⟩
      rcases j2 b hu with h | h
      · exact i2 b hb h
      · have := r.lt i1 b hb; omega
/-- What is owned may be kept only to be read. -/
theorem rOw_rd {α : Type} {E : El α} {e : TypeId} {v : Value} {l : List α} {w : World} {S : Nat → Prop} (h : (rOw e E v l).p w S) : (rRd E v l).p w S := by
  obtain ⟨h1, rfl⟩ := rOw_p.1 h
  unfold rRd
  exact ⟨h1.rd, fun b hb _ _ => hb, fun b hb => h1.lt b hb⟩
theorem rRd_p {α : Type} {E : El α} {v : Value} {l : List α} {w : World} {S : Nat → Prop} : (rRd E v l).p w S ↔ Rd w E v l ∧ (∀ b, v.ownBlock = some b → l ≠ [] → 0 < E.sz → S b) ∧ ∀ b, S b → b < w.heap.size := by unfold rRd; exact Iff.rfl
/-- A shorter one, of the same memory. -/
theorem rRd_head {α : Type} {E : El α} {ad : Option Addr} {n c : Nat} {l : List α} {w : World} {S : Nat → Prop} (h : (rRd E (.slice ad n c) l).p w S) {k m : Nat} (hk : k ≤ l.length) (hm : k ≤ m) : (rRd E (.slice ad k m) (l.take k)).p w S := by
  obtain ⟨h1, h2, h3⟩ := rRd_p.1 h
  refine rRd_p.2 ⟨h1.head hk hm, fun b hb hne hz => h2 b (by cases ad with | none => cases hb | some x => exact hb) (fun h0 => hne (by rw [h0, List.take_nil])) hz, h3⟩
end Go.Sk
