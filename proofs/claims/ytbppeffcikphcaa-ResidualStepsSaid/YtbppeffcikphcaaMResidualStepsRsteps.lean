/- Plain lists and numbers, for the law ResidualSteps: no program and no memory. -/
import Derived.Test.YtbppeffcikphcaaPResidualStepsx0
import Derived.Test.YtbppeffcikphcaaMResidualStepsBase
import Derived.Test.YtbppeffcikphcaaMResidualStepsPick
import Derived.Test.YtbppeffcikphcaaMResidualStepsMade
import Derived.Test.YtbppeffcikphcaaMResidualStepsFlowmath
import Derived.Test.YtbppeffcikphcaaMResidualStepsFlowfun
import Derived.Test.YtbppeffcikphcaaMResidualStepsWalk
import Derived.Test.YtbppeffcikphcaaMResidualStepsRouted
import Derived.Test.YtbppeffcikphcaaMResidualStepsResid
set_option linter.unusedVariables false
namespace Go.Proofs.Ytbppeffcikphcaa.Pure
open Go.RowKit Go.Proofs.Ytbppeffcikphcaa.PResidualSteps Go.Proofs.YtbppeffcikphcaaW.PrintWords Go.Proofs.YtbppeffcikphcaaW.PrintLast
/-- What holds of a walk in the making: no arc comes twice. -/
structure Making (n s : Int) (l : List S49) (met : List Bool) (at_ : Int) (w : List Int) : Prop where
  inr : ∀ r ∈ w, InR l r
  nodup : (w.map (· / 2)).Nodup
  path : RPath l s w at_
  a1 : 1 ≤ at_
  an : at_ ≤ n
  len : (met.length : Int) = n + 1
  seen : ∀ r ∈ w, rdOf false met (fromOf l r) = true ∧ (rdOf false met (toOf l r) = true ∨ toOf l r = at_)
theorem ends_pair {l : List S49} {r q : Int} (h : r / 2 = q / 2) : (fromOf l r = fromOf l q ∧ toOf l r = toOf l q) ∨ (fromOf l r = toOf l q ∧ toOf l r = fromOf l q) := by
  unfold fromOf toOf
  rw [h]
  by_cases c : r % 2 = 1 <;> by_cases e : q % 2 = 1 <;> simp [c, e]
theorem Making.stay {n s at_ : Int} {l : List S49} {met : List Bool} {w : List Int} (hg : ∀ a ∈ l, GoodArc n a) (M : Making n s l met at_ w) : Making n s l (met.set at_.toNat true) at_ w := by
  have h1 := M.a1
  have h2 := M.an
  have h3 := M.len
  refine ⟨M.inr, M.nodup, M.path, h1, h2, by rw [List.length_set]; exact h3, fun r hr => ?_⟩
  obtain ⟨g0, g1, g2, g3⟩ := ends_range hg (M.inr r hr)
  obtain ⟨p, q⟩ := M.seen r hr
  rw [rdOf_set (by omega) (by omega) (by omega), rdOf_set (by omega) (by omega) (by omega)]
  refine ⟨by split <;> first | rfl | exact p, ?_⟩
  rcases q with q | q
  · left; split <;> first | rfl | exact q
  · exact Or.inr q
theorem Making.move {n s at_ r : Int} {l : List S49} {met : List Bool} {w : List Int} (hg : ∀ a ∈ l, GoodArc n a) (M : Making n s l met at_ w) (hr : InR l r) (hf : fromOf l r = at_)
    (hto : ¬ rdOf false (met.set at_.toNat true) (toOf l r) = true) : Making n s l (met.set at_.toNat true) (toOf l r) (w ++ [r]) := by
  have M' := M.stay hg
  obtain ⟨k0, k1, k2, k3⟩ := ends_range hg hr
  have h1 := M.a1
  have h2 := M.an
  have h3 := M.len
  have hat : rdOf false (met.set at_.toNat true) at_ = true := by rw [rdOf_set (by omega) (by omega) (by omega), if_pos rfl]
  refine ⟨fun q hq => ?_, ?_, M.path.snoc hf, k2, k3, M'.len, fun q hq => ?_⟩
  · rcases List.mem_append.1 hq with hq | hq
    · exact M.inr q hq
    · obtain rfl := List.mem_singleton.1 hq
      exact hr
  · rw [List.map_append, List.nodup_append]
    refine ⟨M.nodup, by simp, fun a ha b hb => ?_⟩
    obtain ⟨q, hq, rfl⟩ := List.mem_map.1 ha
    have hb : b = r / 2 := by simpa using hb
    rintro rfl
    obtain ⟨p0, p1⟩ := M'.seen q hq
    rcases ends_pair (l := l) hb with ⟨e0, e1⟩ | ⟨e0, e1⟩
    · rw [e1] at p1
      rcases p1 with p1 | p1
      · exact hto p1
      · rw [p1] at hto; exact hto hat
    · rw [e0] at p0; exact hto p0
  · rcases List.mem_append.1 hq with hq | hq
    · obtain ⟨p0, p1⟩ := M'.seen q hq
      refine ⟨p0, Or.inl ?_⟩
      rcases p1 with p1 | p1
      · exact p1
      · rw [p1]; exact hat
    · obtain rfl := List.mem_singleton.1 hq
      exact ⟨by rw [hf]; exact hat, Or.inr rfl⟩
theorem Making.start {n s t : Int} {l : List S49} (R : Right n s t l) : Making n s l (List.replicate (n + 1).toNat false) s [] := by
  have := R.n2
  exact ⟨fun r h => absurd h (by simp), List.nodup_nil, rfl, R.s1, R.sn, by simp; omega, fun r h => absurd h (by simp)⟩
end Go.Proofs.Ytbppeffcikphcaa.Pure
