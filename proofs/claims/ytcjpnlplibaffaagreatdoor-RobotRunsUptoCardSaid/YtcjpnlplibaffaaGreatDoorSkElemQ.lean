/- An element's load among calls that make new things. -/
import Derived.Test.YtcjpnlplibaffaaGreatDoorSkFloatQ
import Derived.Test.YtcjpnlplibaffaaGreatDoorSkB
set_option linter.all false
namespace Go.Sk
open Go

section
variable {P : Program} {ops : Array Oper} {S : List Nat} {K : Act → World → Prop} {a : Act} {w : World} {o : Oper} {i : Nat}
theorem stepU_loadE {α : Type} {E : El α} {t : TypeId} {x : Operand} {b k : Nat} {v sv : Value} {xs : List α} {u : α} {R : List Res} (ho : ops[i]? = some o) (hS : S.contains i = true) (hw : Region.wanted o (yielded ops a.tmps) = true) (hop : o.op = .load t x) (hx : a.eval x = .pointer (some ⟨b, k, none⟩))
    (hs : scalarB P t = true) (hel : ∀ W, Rd W E sv xs → At W b k (E.cells u)) (hm : rRd E sv xs ∈ R) (hc : (E.cells u)[0]? = some v)
    (h : ∀ w', Mod none' w w' → K (a.put o.dst v) w') : stepU P ops (Cls R) S i K a w :=
  stepU_val ho hS hw (fun W hW => by
    have hl := run_load (P := P) (w := W) (k := k + 0) hs ((hel W (hW _ hm).rd).cell hc)
    rw [Nat.add_zero] at hl
    simp only [execOp, hop, hx, Sem.run_bind, hl, Result.andThen_ok, Sem.run_pure]) h
end
end Go.Sk
