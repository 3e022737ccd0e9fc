/- Plain lists and numbers, for the law NetTurns: no program and no memory. -/
import Derived.Test.YtjbeofcgnnlllaaPNetTurnsx0
import Derived.Test.YtjbeofcgnnlllaaPNetTurnsx13
import Derived.Test.YtjbeofcgnnlllaaPNetTurnsx14
import Derived.Test.YtjbeofcgnnlllaaPNetTurnsx15
import Derived.Test.YtjbeofcgnnlllaaMNetTurnsBase
set_option linter.unusedVariables false
namespace Go.Proofs.Ytjbeofcgnnlllaa.Pure
open Go.RowKit Go.Proofs.Ytjbeofcgnnlllaa.PNetTurns Go.Proofs.YtjbeofcgnnlllaaW.PrintWords Go.Proofs.YtjbeofcgnnlllaaW.PrintLast
theorem arcsOf_snoc {p : S28 → Int} {v : Int} {a : S28} : ∀ (l : List S28) (i : Nat), arcsOf p v (l ++ [a]) i = arcsOf p v l i ++ if p a = v then [((i + l.length : Nat) : Int)] else []
  | [], i => by simp [arcsOf]
  | b :: l, i => by
    have ih := arcsOf_snoc (p := p) (v := v) (a := a) l (i + 1)
    have e : i + 1 + l.length = i + (b :: l).length := by simp; omega
    rw [e] at ih
    simp only [List.cons_append, arcsOf]
    rw [ih]
    split <;> simp
theorem arcsOf_len {p : S28 → Int} {v : Int} : ∀ (l : List S28) (i : Nat), (arcsOf p v l i).length ≤ l.length
  | [], i => by simp [arcsOf]
  | b :: l, i => by
    have ih := arcsOf_len (p := p) (v := v) l (i + 1)
    simp only [arcsOf]
    split <;> simp <;> omega
theorem out_eq {n s t v : Int} {l : List S28} (h : l.length ≤ 3001) : net_Out.f n s t l v = some (arcsOf (·.f0) v l 0) := by unfold net_Out.f; rw [if_pos (by omega)]
theorem in_eq {n s t v : Int} {l : List S28} (h : l.length ≤ 3001) : net_In.f n s t l v = some (arcsOf (·.f1) v l 0) := by unfold net_In.f; rw [if_pos (by omega)]
end Go.Proofs.Ytjbeofcgnnlllaa.Pure
