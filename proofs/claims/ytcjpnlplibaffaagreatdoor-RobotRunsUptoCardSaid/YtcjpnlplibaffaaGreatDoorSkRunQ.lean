/- A robot that goes where it fits, plain: what holds of it through all that it hears, ticks, waits. -/
import Derived.Test.YtcjpnlplibaffaaGreatDoorSkStopQ
set_option linter.all false
namespace Go.Sk
open Go

structure RunOk (c : ConfP) (r : RM) (n : Int) : Prop where
  ok : RMOk c r n
  fit : fitsB c r.pose = true
  aim : ∀ g, r.under = some g → fitsB c g.move.dst = true
  ep : r.epoch ≤ n
theorem legal_aim {c : ConfP} {m : Move} (hn : Nums c) (h : legalP c m = true) : fitsB c m.dst = true := legal_fits (m := backM m 0) (back_legal hn h)
theorem RunOk.more {c : ConfP} {r : RM} {n n' : Int} (h : RunOk c r n) (hn : n ≤ n') : RunOk c r n' :=
  ⟨h.ok.more hn, h.fit, h.aim, by have := h.ep; omega⟩
theorem RunOk.start {c : ConfP} {u : Pose} (hu : WfP u) (hf : fitsB c u = true) : RunOk c (RM.start u) 0 :=
  ⟨RMOk.start hu, hf, (fun g hg => by cases hg), Int.le_refl _⟩
theorem RunOk.hear {c : ConfP} {k : KinP} {r : RM} {n : Int} {t : Tele} (hk : k.Ok) (hnm : Nums c) (h : RunOk c r n) (hn : 0 ≤ n) (ht : t.kind = 2 → t.epoch ≤ n + 1) : RunOk c (r.hear c k 0 t).1 (n + 1) := by
  have hok := RMOk.hear (c := c) (k := k) (i := 0) (t := t) hk h.ok hn
  refine ⟨hok, ?_, ?_, ?_⟩
  all_goals
    have hf := h.fit
    have ha := h.aim
    have he := h.ep
    have hg := h.ok.going
    unfold RM.hear RM.goes RM.stops
    clear hok h
  · repeat' split
    all_goals exact hf
  · intro g
    split
    · exact ha g
    · split
      · split
        · exact ha g
        · split
          · exact ha g
          · split
            · exact ha g
            · split
              · rename_i h5
                intro e
                injection e with e
                subst e
                exact legal_aim hnm h5.2.2.1
              · exact ha g
      · split
        · split
          · exact ha g
          · split
            · cases hu : r.under with
              | none =>
                intro e
                simp only at e
                cases e
              | some u =>
                intro e
                simp only at e
                injection e with e
                subst e
                obtain ⟨g0, g1, g2, g3, g4, g5, g6⟩ := hg u hu
                unfold Going.cuts
                split
                · rename_i hc
                  have hl := g4 hc.2
                  obtain ⟨a1, a2, a3, a4⟩ := legal_run hl hc.1
                  obtain ⟨s1, s2, _, _⟩ := KinP.stop_is hk (n := u.move.n) (t := u.t) a1.1
                  by_cases hz : (k.stop u.move.n u.t).1 = 0
                  · simp only [hz]
                    rw [shift_none (fits_in hnm (legal_fits hl))]
                    exact legal_fits hl
                  · exact legal_aim hnm (legal_cut hl hc.1 (show 1 ≤ (k.stop u.move.n u.t).1 by omega) s2)
                · exact ha u hu
            · split
              · exact ha g
              · exact ha g
        · exact ha g
  · have hn1 : r.epoch ≤ n + 1 := by omega
    split
    · exact hn1
    · split
      · split
        · exact hn1
        · split
          · exact hn1
          · split
            · exact hn1
            · split
              · exact hn1
              · exact hn1
      · split
        · rename_i h2
          split
          · exact hn1
          · split
            · cases r.under with
              | none => exact ht h2
              | some u => exact ht h2
            · split
              · exact hn1
              · exact hn1
        · exact hn1
theorem RunOk.tick {c : ConfP} {r : RM} {n : Int} (h : RunOk c r n) : RunOk c r.tick.1 (n + 1) := by
  have hok := RMOk.tick h.ok
  refine ⟨hok, ?_, ?_, ?_⟩
  all_goals
    have hf := h.fit
    have ha := h.aim
    have he := h.ep
    unfold RM.tick
    clear hok h
    cases hu : r.under with
    | none =>
      simp only
      first | exact hf | (rw [hu]; intro g e; cases e) | omega
    | some u =>
      have hau := ha u hu
      simp only
      split
      · simp only
        first | exact hf | (rw [hu] at ha; exact ha) | (intro g e; exact ha g (by rw [hu]; simpa [hu] using e)) | omega
      · split
        · simp only
          first | exact hf | (intro g e; injection e with e; subst e; exact hau) | omega
        · split
          · simp only
            first | exact hau | (intro g e; cases e) | omega
          · simp only
            first | exact hau | (intro g e; cases e) | omega
theorem RunOk.hold {c : ConfP} {r : RM} {n d : Int} (h : RunOk c r n) : RunOk c (r.hold d) n := by
  refine ⟨RMOk.hold h.ok, ?_, ?_, ?_⟩
  all_goals
    unfold RM.hold
    split
    all_goals first | exact h.fit | exact h.aim | exact h.ep
/-- k ticks. -/
def tickN : Nat → RM → RM
  | 0, r => r
  | k + 1, r => (tickN k r).tick.1
theorem RunOk.tickN {c : ConfP} {r : RM} {n : Int} (h : RunOk c r n) : ∀ k : Nat, RunOk c (Go.Sk.tickN k r) (n + k)
  | 0 => by simpa [Go.Sk.tickN] using h
  | k + 1 => by
    have := (RunOk.tickN h k).tick
    rw [show n + ((k + 1 : Nat) : Int) = n + k + 1 by omega]
    exact this
theorem hear_len {c : ConfP} {k : KinP} {r : RM} {t : Tele} {v : RM × List Tele × Int} (hv : r.hear c k 0 t = v) : v.2.1.length ≤ 1 := by
  subst hv
  unfold RM.hear RM.goes RM.stops
  split
  · simp
  · split
    · repeat' split
      all_goals simp
    · split
      · split
        · simp
        · split
          · cases r.under <;> simp
          · split <;> simp
      · simp
end Go.Sk
