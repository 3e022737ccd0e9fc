/- Plain lists and numbers, for the law NetTurns: no program and no memory. -/
import Derived.Test.YtjbeofcgnnlllaaPNetTurnsx16
import Derived.Test.YtjbeofcgnnlllaaMNetTurnsBase
import Derived.Test.YtjbeofcgnnlllaaMNetTurnsFlowmath
set_option linter.unusedVariables false
namespace Go.Proofs.Ytjbeofcgnnlllaa.Pure
open Go.RowKit Go.Proofs.Ytjbeofcgnnlllaa.PNetTurns Go.Proofs.YtjbeofcgnnlllaaW.PrintWords Go.Proofs.YtjbeofcgnnlllaaW.PrintLast
theorem samei_loop {a b : List Int} (hl : a.length = b.length) (hm : a.length ≤ 1000000) (d : Nat) : ∀ i : Nat, i + d = a.length → Ev (fun k => racewaylaw3_same.l0 k a b (i : Int)) (decide (a.drop i = b.drop i)) := by
  induction d with
  | zero =>
    intro i hi
    refine Ev.step (f := fun _ => some (decide (a.drop i = b.drop i))) (fun k => ?_) (Ev.now _)
    simp only [racewaylaw3_same.l0]
    rw [if_neg (by omega), List.drop_of_length_le (by omega), List.drop_of_length_le (by omega)]
    simp
  | succ d ih =>
    intro i hi
    have hia : i < a.length := by omega
    have hib : i < b.length := by omega
    by_cases c : a[i] = b[i]
    · have e : decide (a.drop i = b.drop i) = decide (a.drop (i + 1) = b.drop (i + 1)) := by
        have e3 : (a.drop i = b.drop i) ↔ (a.drop (i + 1) = b.drop (i + 1)) := by
          rw [List.drop_eq_getElem_cons hia, List.drop_eq_getElem_cons hib, c]
          exact ⟨fun h => (List.cons.inj h).2, fun h => by rw [h]⟩
        exact decide_eq_decide.2 e3
      rw [e]
      refine Ev.step (fun k => ?_) (ih (i + 1) (by omega))
      simp only [racewaylaw3_same.l0]
      rw [if_pos (by omega), if_pos (by omega), if_pos (by omega), rd_get hia, rd_get hib, if_pos c, wrap_id (by omega) (by omega)]
      rfl
    · have e : decide (a.drop i = b.drop i) = false := by
        refine decide_eq_false (fun h => c ?_)
        rw [List.drop_eq_getElem_cons hia, List.drop_eq_getElem_cons hib] at h
        exact (List.cons.inj h).1
      rw [e]
      refine Ev.step (f := fun _ => some false) (fun k => ?_) (Ev.now _)
      simp only [racewaylaw3_same.l0]
      rw [if_pos (by omega), if_pos (by omega), if_pos (by omega), rd_get hia, rd_get hib, if_neg c]
theorem samei_ev (a b : List Int) (hm : a.length ≤ 1000000) : Ev (fun k => racewaylaw3_same.f k a b) (decide (a = b)) := by
  by_cases hl : a.length = b.length
  · have := samei_loop hl hm a.length 0 (by omega)
    rw [List.drop_zero, List.drop_zero] at this
    refine Ev.congr (fun k => ?_) this
    unfold racewaylaw3_same.f
    rw [if_pos (by omega)]
    rfl
  · have e : decide (a = b) = false := decide_eq_false (fun h => hl (by rw [h]))
    rw [e]
    refine Ev.congr (fun k => ?_) (Ev.now _)
    unfold racewaylaw3_same.f
    rw [if_neg (by omega)]
end Go.Proofs.Ytjbeofcgnnlllaa.Pure
