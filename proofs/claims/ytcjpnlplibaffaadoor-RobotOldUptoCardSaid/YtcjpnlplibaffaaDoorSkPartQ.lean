/- A part of a block: read, written; a load of one that stays. -/
import Derived.Test.YtcjpnlplibaffaaDoorSkRefQ
set_option linter.all false
namespace Go.Sk
open Go

section
variable {P : Program} {ops : Array Oper} {Q : Exit → Act → World → Prop} {o : Oper} {rest : List Oper} {a : Act} {w0 w : World} {F : Nat → Prop} {M L : List Res}
theorem part_at {b off : Nat} {cs ds : List Value} {T : TypeId} (h : Blk w b cs T) (hc : (cs.drop off).take ds.length = ds) : At w b off ds := h.at fun j v hj => by
  rw [← hc, List.getElem?_take, List.getElem?_drop] at hj
  split at hj
  · exact hj
  · cases hj
theorem wl_loadPK {t : TypeId} {x : Operand} {b k n : Nat} {cs : List Value} {T : TypeId} (ds : List Value) (hK : Know w0 w F M L) (ho : o.op = .load t x) (hw : Region.wanted o (yielded ops a.tmps) = true) (hx : a.eval x = .pointer (some ⟨b, k, none⟩))
    (ht : aggB P t n = true) (hm : MemB b cs T M ∨ MemB b cs T L := by first | (left; repeat (first | exact MemB.head | apply MemB.tail)); done | (right; repeat (first | exact MemB.head | apply MemB.tail)); done)
    (hc : (cs.drop k).take ds.length = ds := by rfl) (hn : ds.length = n := by rfl)
    (h : wpList P ops Q rest (a.put o.dst (.agg ds.toArray)) w) : wpList P ops Q (o :: rest) a w :=
  wl_loadS ho hw hx ht hn (part_at (hK.blk hm) hc) h
theorem wl_storePK {t : TypeId} {x y : Operand} {b k n i : Nat} {cs : List Value} {T : TypeId} (vs cs' : List Value) (hK : Know w0 w F M L) (ho : o.op = .store t x y) (hw : Region.wanted o (yielded ops a.tmps) = true) (hx : a.eval x = .pointer (some ⟨b, k, none⟩)) (hy : a.eval y = .agg vs.toArray)
    (ht : sizeB P t n = true) (hv : ∀ v ∈ vs, v.oneCell' = true)
    (hi : Ix M (rBlk b cs T) i := by repeat (first | exact Ix.head | apply Ix.tail)) (hn : vs.length = n := by rfl) (hk : k + n ≤ cs.length := by decide) (hc : cs.take k ++ vs ++ cs.drop (k + n) = cs' := by rfl)
    (h : ∀ w', Know w0 w' F (M.set i (rBlk b cs' T)) L → wpList P ops Q rest (a.put o.dst undef) w') : wpList P ops Q (o :: rest) a w := by
  obtain ⟨S, h1, h2⟩ := hK.stepI hi
  obtain ⟨hB, rfl⟩ := rBlk_p.1 h1
  refine wl_storeS ho hw hx hy ht hn hv hB hk fun w' hB' m => h w' (h2 w' _ ⟨m, only b, rBlk_p.2 ⟨?_, rfl⟩, fun _ h => .inl h⟩)
  rw [← hc]
  exact hB'
/-- A load of a part of a block that stays. -/
theorem stays_loadSP {k : Nat} {S : List Nat} {t : TypeId} {x : Operand} {b d n off : Nat} {R : List Res} {cs : List Value} (ds : List Value) {T : TypeId} (ho : ops[k]? = some o) (hop : o.op = .load t x) (hd : o.dst = some d) (hx : a.eval x = .pointer (some ⟨b, off, none⟩))
    (hs : aggB P t n = true) (hm : MemB b cs T R := by repeat (first | exact MemB.head | apply MemB.tail)) (hc : (cs.drop off).take ds.length = ds := by rfl) (hn : ds.length = n := by rfl) (hv : a.tmps.getD d undef = .agg ds.toArray := by rfl) (rest : stays P ops (fun W => ∀ r ∈ R, Has W r) S a) : stays P ops (fun W => ∀ r ∈ R, Has W r) (k :: S) a := by
  intro k' hk o' ho' hw W hW
  rcases List.mem_cons.1 hk with rfl | hk
  · rw [ho] at ho'
    injection ho' with ho'
    subst ho'
    refine .inl ?_
    have hl := run_loadS (P := P) (w := W) (k := off) hs hn (part_at (hW _ hm.mem).blk hc)
    simp only [execOp, hop, hx, Sem.run_bind, hl, Result.andThen_ok, Sem.run_pure, hd, Option.map_some, Option.getD_some, hv]
  · exact rest k' hk o' ho' hw W hW
end
end Go.Sk
