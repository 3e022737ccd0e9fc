/- Plain lists and numbers, for the law FlowRoutes: no program and no memory. -/
import Derived.Test.YtbonhjjhohbggaaPFlowRoutesx0
import Derived.Test.YtbonhjjhohbggaaPFlowRoutesx3
import Derived.Test.YtbonhjjhohbggaaPFlowRoutesx15
import Derived.Test.YtbonhjjhohbggaaMFlowRoutesBase
set_option linter.unusedVariables false
namespace Go.Proofs.Ytbonhjjhohbggaa.Pure
open Go.RowKit Go.Proofs.Ytbonhjjhohbggaa.PFlowRoutes Go.Proofs.YtbonhjjhohbggaaW.PrintWords Go.Proofs.YtbonhjjhohbggaaW.PrintLast
theorem turn_eq {n s t : Int} {l : List S38} (h : l.length ≤ 1000000) : net_Turn.f n s t l = some (n, t, s, l.map turnArc) := by
  unfold net_Turn.f
  rw [if_pos (by omega)]
theorem turn_turn (l : List S38) : (l.map turnArc).map turnArc = l := by
  rw [List.map_map]
  have e : (turnArc ∘ turnArc) = id := by funext a; rfl
  rw [e, List.map_id]
theorem chk_turn {n : Int} : ∀ (l : List S38) (s : Int), chkArcs n (l.map turnArc) s = chkArcs n l s
  | [], _ => rfl
  | a :: l, s => by
    have e0 : (turnArc a).f0 = a.f1 := rfl
    have e1 : (turnArc a).f1 = a.f0 := rfl
    have e2 : (turnArc a).f2 = a.f2 := rfl
    simp only [List.map_cons, chkArcs, e0, e1, e2, chk_turn l]
    have c : (1 ≤ a.f1 ∧ a.f1 ≤ n ∧ 1 ≤ a.f0 ∧ a.f0 ≤ n) = (1 ≤ a.f0 ∧ a.f0 ≤ n ∧ 1 ≤ a.f1 ∧ a.f1 ≤ n) := propext ⟨fun h => ⟨h.2.2.1, h.2.2.2, h.1, h.2.1⟩, fun h => ⟨h.2.2.1, h.2.2.2, h.1, h.2.1⟩⟩
    simp only [c]
theorem check_turn (n s t : Int) (l : List S38) : net_Check.f n t s (l.map turnArc) = net_Check.f n s t l := by
  unfold net_Check.f
  rw [chk_turn, List.length_map]
  have c : (1 ≤ t ∧ t ≤ n ∧ 1 ≤ s ∧ s ≤ n) = (1 ≤ s ∧ s ≤ n ∧ 1 ≤ t ∧ t ≤ n) := propext ⟨fun h => ⟨h.2.2.1, h.2.2.2, h.1, h.2.1⟩, fun h => ⟨h.2.2.1, h.2.2.2, h.1, h.2.1⟩⟩
  have d : (t = s) = (s = t) := propext ⟨Eq.symm, Eq.symm⟩
  simp only [c, d]
theorem chk_some {n : Int} : ∀ (l : List S38) (s : Int), (∀ a ∈ l, -9223372036854775808 ≤ a.f2 ∧ a.f2 ≤ 9223372036854775807) → ∃ c, chkArcs n l s = some c
  | [], _, _ => ⟨0, rfl⟩
  | a :: l, s, h => by
    have h0 := h a List.mem_cons_self
    unfold chkArcs
    rw [if_pos h0]
    split
    · split
      · exact ⟨_, rfl⟩
      · split
        · exact ⟨_, rfl⟩
        · exact chk_some l _ (fun x hx => h x (List.mem_cons_of_mem _ hx))
    · exact ⟨_, rfl⟩
theorem check_some (n s t : Int) {l : List S38} (h : ∀ a ∈ l, -9223372036854775808 ≤ a.f2 ∧ a.f2 ≤ 9223372036854775807) : ∃ c, net_Check.f n s t l = some c := by
  unfold net_Check.f
  split
  · exact ⟨_, rfl⟩
  · split
    · exact ⟨_, rfl⟩
    · split
      · exact ⟨_, rfl⟩
      · split
        · exact ⟨_, rfl⟩
        · exact chk_some l 0 h
end Go.Proofs.Ytbonhjjhohbggaa.Pure
