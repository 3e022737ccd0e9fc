/- Plain lists and numbers, for the law LevelTells: no program and no memory. -/
-- slimm
import Derived.Test.YtbppeffcikphcaaPLevelTellsx0
import Derived.Test.YtbppeffcikphcaaPLevelTellsx6
import Derived.Test.YtbppeffcikphcaaPLevelTellsx8
import Derived.Test.YtbppeffcikphcaaPLevelTellsx10
import Derived.Test.YtbppeffcikphcaaPLevelTellsx18
import Derived.Test.YtbppeffcikphcaaPLevelTellsx19
import Derived.Test.YtbppeffcikphcaaPLevelTellsx20
import Derived.Test.YtbppeffcikphcaaPLevelTellsx21
import Derived.Test.YtbppeffcikphcaaPLevelTellsx23
import Derived.Test.YtbppeffcikphcaaMLevelTellsAll
set_option linter.unusedVariables false
namespace Go.Proofs.Ytbppeffcikphcaa.Pure
open Go.RowKit Go.Proofs.Ytbppeffcikphcaa.PLevelTells Go.Proofs.YtbppeffcikphcaaW.PrintWords Go.Proofs.YtbppeffcikphcaaW.PrintLast
section
variable {n s t least : Int} {l : List S49} {f : List Int}
theorem tells_both (hw : ∀ a ∈ l, -9223372036854775808 ≤ a.f2 ∧ a.f2 ≤ 9223372036854775807) (hl : l.length ≤ 2000) : ∃ (a c : List Int) (e x : Int), a.length ≤ 1000000 ∧ c.length ≤ 1000000 ∧
  Ev (fun k => level_Levels.f k n s t l f least) (a, e) ∧ Ev (fun k => q7_Levels.f k n s t l f least) (a, e) ∧
  Ev (fun k => level_Leads.f k n s t l f least) (c, e) ∧ Ev (fun k => q7_Leads.f k n s t l f least) (c, e) ∧
  Ev (fun k => level_Deep.f k n s t l f least) (x, e) ∧ Ev (fun k => q7_Deep.f k n s t l f least) (x, e) := by
 have bad : ∀ e, e ≠ 0 → Ev (fun k => level_Levels.f k n s t l f least) ([], e) → Ev (fun k => q7_Levels.f k n s t l f least) ([], e) → ∃ (a c : List Int) (e x : Int), a.length ≤ 1000000 ∧ c.length ≤ 1000000 ∧
   Ev (fun k => level_Levels.f k n s t l f least) (a, e) ∧ Ev (fun k => q7_Levels.f k n s t l f least) (a, e) ∧
   Ev (fun k => level_Leads.f k n s t l f least) (c, e) ∧ Ev (fun k => q7_Leads.f k n s t l f least) (c, e) ∧
   Ev (fun k => level_Deep.f k n s t l f least) (x, e) ∧ Ev (fun k => q7_Deep.f k n s t l f least) (x, e) := fun e he h1 h2 => by
  refine ⟨[], [], e, 0, by simp, by simp, h1, h2, ?_, ?_, ?_, ?_⟩
  ·unfold level_Leads.f
   refine Ev.bind h1 ?_
   exact Ev.congr (fun k => if_neg he) (Ev.now _)
  ·unfold q7_Leads.f
   refine Ev.bind h2 ?_
   exact Ev.congr (fun k => if_neg he) (Ev.now _)
  ·unfold level_Deep.f
   refine Ev.bind h1 ?_
   exact Ev.congr (fun k => if_neg he) (Ev.now _)
  ·unfold q7_Deep.f
   refine Ev.bind h2 ?_
   exact Ev.congr (fun k => if_neg he) (Ev.now _)
 rcases check_both (n := n) (s := s) (t := t) (f := f) hw with ⟨e, he, h1, h2⟩ | ⟨R, F, hc⟩
 ·exact bad e he (levels_err he h1) (levels7_err he (reach6_err he h2))
 ·by_cases hle : least < 1
  ·exact bad 3 (by decide) (levels_low R F hle) (levels7_err (by decide) (reach6_low R F hc hle))
  ·obtain ⟨up, hup, U⟩ := levels_ev R F (least := least) (by omega)
   have hup7 := levels7_ev R F hc (by omega) U
   have h1 := R.t1
   have h2 := R.tn
   have h3 := U.len
   have h4 := R.n500
   have hll := ld_len (l := l) (room := roomOf l f) (up := up) (least := least) (2 * l.length)
   refine ⟨up, ld l (roomOf l f) least up (2 * l.length), 0, rd up t, by omega, by omega, hup, hup7, leads_ev R F hup U, leads7_ev R F hc hup7 U, deep_ev R hup U, ?_⟩
   unfold q7_Deep.f
   refine Ev.bind hup7 ?_
   refine Ev.congr (fun k => ?_) (Ev.now (rd up t, (0 : Int)))
   simp only [if_true]
   rw [if_pos (by omega), if_pos (by omega)]
theorem tells_j0 (hw : ∀ a ∈ l, -9223372036854775808 ≤ a.f2 ∧ a.f2 ≤ 9223372036854775807) (hl : l.length ≤ 2000) (b : Bool) : Ev (fun k => r7_LevelTells.j0 k f least true b n s t l) true := by
 cases b with
 | true =>
  refine Ev.step (f := fun _ => some true) (fun k => ?_) (Ev.now _)
  simp only [r7_LevelTells.j0]
  rw [if_pos (by trivial)]
 | false =>
  obtain ⟨a, c, e, x, ha, hc, h1, h2, h3, h4, h5, h6⟩ := tells_both (n := n) (s := s) (t := t) (least := least) (f := f) hw hl
  refine Ev.step (f := ?g) (fun k => ?h) ?e
  case h =>
   simp only [r7_LevelTells.j0]
   rw [if_neg (by decide)]
  case e =>
   refine Ev.bind h1 ?_
   refine Ev.bind h2 ?_
   refine Ev.bind h3 ?_
   refine Ev.bind h4 ?_
   refine Ev.bind h5 ?_
   refine Ev.bind h6 ?_
   refine Ev.bind (samei_ev a a ha) ?_
   simp only [decide_true, if_true]
   refine Ev.bind (samei_ev c c hc) ?_
   simp only [decide_true, if_true, beq_self_eq_true]
   exact Ev.now _
end
theorem LevelTells : r7_LevelTells.Pure := by
 intro n s t l f least _ _ _ _ hw _ _ _ _
 have hw2 : ∀ a ∈ l, -9223372036854775808 ≤ a.f2 ∧ a.f2 ≤ 9223372036854775807 := fun a ha => wf_bounds (hw a ha).2.2
 have h : Ev (fun k => r7_LevelTells.f k n s t l f least) true := by
  unfold r7_LevelTells.f
  refine Ev.bind shown7_ev ?_
  simp only [if_true]
  by_cases c : (l.length : Int) > 200
  ·refine Ev.congr (fun k => if_pos c) ?_
   refine Ev.step (f := fun _ => some true) (fun k => ?_) (Ev.now _)
   simp only [r7_LevelTells.j0]
   rw [if_pos (by trivial)]
  ·refine Ev.congr (fun k => if_neg c) ?_
   exact tells_j0 hw2 (by omega) _
 exact Ev.rounds h
end Go.Proofs.Ytbppeffcikphcaa.Pure
