/- Plain lists and numbers, for the law NetSames: no program and no memory. -/
import Derived.Test.YtjbeofcgnnlllaaPNetSamesx0
import Derived.Test.YtjbeofcgnnlllaaPNetSamesx5
import Derived.Test.YtjbeofcgnnlllaaPNetSamesx6
import Derived.Test.YtjbeofcgnnlllaaMNetSamesBase
set_option linter.unusedVariables false
namespace Go.Proofs.Ytjbeofcgnnlllaa.Pure
open Go.RowKit Go.Proofs.Ytjbeofcgnnlllaa.PNetSames Go.Proofs.YtjbeofcgnnlllaaW.PrintWords Go.Proofs.YtjbeofcgnnlllaaW.PrintLast
theorem eqArcs_self : ∀ l : List S28, eqArcs l l = true
  | [] => rfl
  | a :: l => by simp [eqArcs, eqArcs_self l]
theorem eqArcs_eq : ∀ {l m : List S28}, eqArcs l m = true → l = m
  | [], [], _ => rfl
  | [], _ :: _, h => by simp [eqArcs] at h
  | _ :: _, [], h => by simp [eqArcs] at h
  | ⟨x0, x1, x2⟩ :: l, ⟨y0, y1, y2⟩ :: m, h => by
    simp only [eqArcs, Bool.and_eq_true, beq_iff_eq] at h
    obtain ⟨⟨rfl, rfl, rfl⟩, h⟩ := h
    rw [eqArcs_eq h]
theorem same_self (n s t : Int) (l : List S28) : net_Same.f n s t l n s t l = some true := by simp [net_Same.f, eqArcs_self]
theorem same_not {n s t n' s' t' : Int} {l m : List S28} (h : n = n' → s = s' → t = t' → l = m → False) : net_Same.f n s t l n' s' t' m = some false := by
  unfold net_Same.f
  by_cases c : n = n' ∧ s = s' ∧ t = t'
  · rw [decide_eq_true c, Bool.true_and]
    cases e : eqArcs l m with
    | false => rfl
    | true => exact (h c.1 c.2.1 c.2.2 (eqArcs_eq e)).elim
  · rw [decide_eq_false c, Bool.false_and]
end Go.Proofs.Ytjbeofcgnnlllaa.Pure
