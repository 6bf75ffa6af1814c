/- The world, opened and shut; a telegram that comes to a robot. -/
import Derived.Test.YtngeeilkpnihmaaGreatDoorWd2Q
import Derived.Test.YtngeeilkpnihmaaGreatDoorRbC
set_option linter.all false
namespace Go.Proofs.YtngeeilkpnihmaaGreatDoor
open Go Go.Sk Go.RowKit
set_option maxRecDepth 100000

theorem Know.shutW {c : ConfP} {wp gp sp : Nat} {ra : Option Addr} {rc : Nat} {ps : List Nat} {sa : Option Addr} {sc : Nat} {m : WM} {w0 w : World} {F : Nat → Prop} {L : List Res} (A : List Res) (hl : ps.length = m.rs.length) (h : Know w0 w F (A ++ rWd c wp gp sp ra rc ps sa sc m) L) : Know w0 w F (A ++ [rWLD c wp m]) L := h.ofTurns (by
  intro U hU
  obtain ⟨S, V, h1, h2, h3, h4⟩ := Sep.append.1 hU
  exact ⟨U, Sep.append.2 ⟨S, V, h1, Sep.one (rWLD_p.2 ⟨gp, sp, ra, rc, ps, sa, sc, hl, h2⟩), h3, h4⟩, fun _ h => h⟩)
theorem Know.openW {c : ConfP} {wp : Nat} {m : WM} {w0 w : World} {F : Nat → Prop} {L : List Res} (A : List Res) (h : Know w0 w F (A ++ [rWLD c wp m]) L) : ∃ gp sp ra rc ps sa sc, ps.length = m.rs.length ∧ Know w0 w F (A ++ rWd c wp gp sp ra rc ps sa sc m) L := by
  obtain ⟨hm, U, h1, h2, h3⟩ := h
  obtain ⟨S, V, k1, k2, k3, k4⟩ := Sep.append.1 h1
  obtain ⟨gp, sp, ra, rc, ps, sa, sc, hl, k⟩ := rWLD_p.1 (Sep.of_one k2)
  exact ⟨gp, sp, ra, rc, ps, sa, sc, hl, hm, U, Sep.append.2 ⟨S, V, k1, k, k3, k4⟩, h2, h3⟩
/-- What is seen, put down by a caller. -/
theorem calls_sees {c : ConfP} {wp i : Nat} {m : WM} {r : RM} {e : TypeId} {xa : Option Addr} {xc : Nat} {ys : List Sight} {w0 w : World} {F : Nat → Prop} {A L : List Res} (h : Know w0 w F (A ++ [rWLD c wp m]) L) (hr : m.rs[i]? = some r) (hl : ys.length ≤ 16) (hml : m.l.length ≤ 100000000) (hrs : m.rs.length ≤ 64) (hx : rOw e elSight (.slice xa ys.length xc) ys ∈ A) :
    Calls Tryz.prog 38 #[.pointer (some ⟨wp, 0, none⟩), .int .i64 i, .slice xa ys.length xc] w fun e w' => e = .returned (.tuple #[]) ∧ Know w0 w' F (A ++ [rWLD c wp { m with l := m.l ++ ys.map (stampS m.now i r.pose) }]) L := by
  have h1 : Know w0 w F ([rWLD c wp m] ++ A) L := h.perm List.perm_append_comm
  obtain ⟨S, hKS, back⟩ := Know.focusM h1
  refine (w_sees (xa := xa) (xc := xc) hr hl hml hrs (hKS.part (r := rOw e elSight (.slice xa ys.length xc) ys) (r' := rRd elSight (.slice xa ys.length xc) ys) (by simp [hx]) (fun _ S hh => ⟨S, rOw_rd hh, fun _ h => h⟩)) (by simp)).mono ?_
  rintro e w' ⟨rfl, hT⟩
  refine ⟨rfl, (back w' [rWLD c wp { m with l := m.l ++ ys.map (stampS m.now i r.pose) }] ?_).perm List.perm_append_comm⟩
  obtain ⟨t1, S', t2, t3⟩ := hT
  exact ⟨t1, S', Sep.one t2, t3⟩
theorem Turns.one {r : Res} {w w' : World} {S : Nat → Prop} (h : Turn r w w' S) : Turns [r] w w' S := by
  obtain ⟨t1, S', t2, t3⟩ := h
  exact ⟨t1, S', Sep.one t2, t3⟩

theorem robotV_at {ps : List Nat} {i p : Nat} (hp : ps[i]? = some p) : robotV ps (i : Int) = .pointer (some ⟨p, 0, none⟩) := by
  unfold robotV
  rw [if_pos (Int.natCast_nonneg i), Int.toNat_natCast, hp]
theorem robotV_not {ps : List Nat} {i : Int} (h : i < 0 ∨ (ps.length : Int) ≤ i) : robotV ps i = .pointer none := by
  unfold robotV
  split
  · rw [List.getElem?_eq_none (by omega)]
  · rfl
section
variable {c : ConfP} {wp gp sp i p : Nat} {ra : Option Addr} {rc : Nat} {ps : List Nat} {sa : Option Addr} {sc : Nat} {m : WM} {r : RM} {w0 w : World} {F : Nat → Prop} {A L : List Res}
/-- One of a world's robots, taken out, and put in its place again. -/
theorem Know.robW (h : Know w0 w F (A ++ rWd c wp gp sp ra rc ps sa sc m) L) (hr : m.rs[i]? = some r) (hp : ps[i]? = some p) :
    ∃ B, Know w0 w F (rROB c i p r :: B) L ∧ ∀ w' r' X, Know w0 w' F (X ++ rROB c i p r' :: B) L → Know w0 w' F (X ++ A ++ rWd c wp gp sp ra rc ps sa sc { m with rs := m.rs.set i r' }) L := by
  have hi : i < m.rs.length := (List.getElem?_eq_some_iff.1 hr).1
  obtain ⟨C1, hC1⟩ : ∃ C1 : List Res, C1 = [rBlk wp (wdCells gp sp ra ps.length rc m.now sa m.l.length sc) 80, rGRID c gp, rSTK c sp m.s] := ⟨_, rfl⟩
  obtain ⟨C2, hC2⟩ : ∃ C2 : List Res, C2 = [rOw 81 elPtr (.slice ra ps.length rc) ps, rOw 43 elSight (.slice sa m.l.length sc) m.l] := ⟨_, rfl⟩
  have e0 : ∀ rs', rWd c wp gp sp ra rc ps sa sc { m with rs := rs' } = C1 ++ rMany (robsW c ps rs') :: C2 := by
    intro rs'
    rw [hC1, hC2]
    rfl
  have e1 : rWd c wp gp sp ra rc ps sa sc m = C1 ++ rMany (robsW c ps m.rs) :: C2 := e0 m.rs
  rw [e1] at h
  refine ⟨rMany ((robsW c ps m.rs).take i ++ (robsW c ps m.rs).drop (i + 1)) :: ((A ++ C1) ++ C2), ?_, ?_⟩
  · have h1 : Know w0 w F (rMany (robsW c ps m.rs) :: ((A ++ C1) ++ C2)) L := h.perm (by rw [← List.append_assoc]; exact List.perm_middle)
    exact h1.pickAt (robsW_at hr hp)
  · intro w' r' X h2
    have h3 : Know w0 w' F (rROB c i p r' :: rMany ((robsW c ps m.rs).take i ++ (robsW c ps m.rs).drop (i + 1)) :: (X ++ ((A ++ C1) ++ C2))) L := h2.perm ((List.perm_middle).trans (List.Perm.cons _ List.perm_middle))
    have h4 := h3.putAt (by rw [robsW_len]; exact hi)
    rw [robsW_set hi hp] at h4
    rw [e0]
    refine h4.perm ?_
    rw [show X ++ A ++ (C1 ++ rMany (robsW c ps (m.rs.set i r')) :: C2) = (X ++ (A ++ C1)) ++ rMany (robsW c ps (m.rs.set i r')) :: C2 by simp only [List.append_assoc],
      show X ++ ((A ++ C1) ++ C2) = (X ++ (A ++ C1)) ++ C2 by simp only [List.append_assoc]]
    exact List.perm_middle.symm
/-- A call that turns one robot. -/
theorem turnsW {r' : RM} {f : FuncId} {args : Array Value} {v : Value} (h : Know w0 w F (A ++ rWd c wp gp sp ra rc ps sa sc m) L) (hr : m.rs[i]? = some r) (hp : ps[i]? = some p)
    (hc : ∀ S, (rROB c i p r).p w S → Calls Tryz.prog f args w fun e w' => e = .returned v ∧ Turn (rROB c i p r') w w' S) :
    Calls Tryz.prog f args w fun e w' => e = .returned v ∧ Know w0 w' F (A ++ rWd c wp gp sp ra rc ps sa sc { m with rs := m.rs.set i r' }) L := by
  obtain ⟨B, h1, back⟩ := Know.robW h hr hp
  refine (h1.callsI hc .head).mono ?_
  rintro e w' ⟨he, hK⟩
  exact ⟨he, back w' r' [] hK⟩
/-- A telegram that comes to one robot. -/
theorem hearsW {v : RM × List Tele × Int} {f : FuncId} {args : Array Value} (h : Know w0 w F (A ++ rWd c wp gp sp ra rc ps sa sc m) L) (hr : m.rs[i]? = some r) (hp : ps[i]? = some p) (hs : stepsR ∈ L)
    (hc : ∀ S, Know w w S [rROB c i p r] [stepsR] → Calls Tryz.prog f args w (hearEnd c i p v w S)) :
    Calls Tryz.prog f args w fun e w' => ∃ ad cap, e = .returned (.tuple #[.slice ad v.2.1.length cap, .int .i64 v.2.2]) ∧
      Know w0 w' F (rOw 58 elTele (.slice ad v.2.1.length cap) v.2.1 :: A ++ rWd c wp gp sp ra rc ps sa sc { m with rs := m.rs.set i v.1 }) L := by
  obtain ⟨B, h1, back⟩ := Know.robW h hr hp
  refine (Know.hears h1 .head hs hc).mono ?_
  rintro e w' ⟨ad, cap, rfl, hK⟩
  exact ⟨ad, cap, rfl, back w' v.1 [rOw 58 elTele (.slice ad v.2.1.length cap) v.2.1] hK⟩
/-- What one robot says of itself. -/
theorem Has.robW (h : Has w (rMany (robsW c ps m.rs))) (hr : m.rs[i]? = some r) (hp : ps[i]? = some p) : Has w (rROB c i p r) := rMany_has h _ (List.mem_of_getElem? (robsW_at hr hp))
end
end Go.Proofs.YtngeeilkpnihmaaGreatDoor
