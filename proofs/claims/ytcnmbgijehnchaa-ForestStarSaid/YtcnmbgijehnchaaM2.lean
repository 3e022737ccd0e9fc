/- Stars of nodes: plain Lean, no program. -/
import Derived.Test.YtcnmbgijehnchaaM0
set_option linter.unusedVariables false
set_option linter.unusedSimpArgs false
namespace Go.Proofs.YtcnmbgijehnchaaW.Splay
open Go.RowKit Go.Shelf Go.Proofs.YtcnmbgijehnchaaW.PrintWords Go.Proofs.YtcnmbgijehnchaaW.PrintLast Go.Proofs.YtcnmbgijehnchaaW.PrintMore Go.Proofs.YtcnmbgijehnchaaW.Mine
/-- The nodes from 1 on, below i, hang below node 0. -/
def starUp (i : Int) : Int → Int := fun y => if 1 ≤ y ∧ y < i then 0 else -1
theorem star_bare : starUp 1 = bare := by
  funext y
  exact if_neg (by omega)
theorem star_put {i : Int} (h : 1 ≤ i) : put (starUp i) i 0 = starUp (i + 1) := by
  funext y
  unfold put starUp
  by_cases c : y = i
  · rw [if_pos c, if_pos (by omega)]
  · rw [if_neg c]
    by_cases c2 : 1 ≤ y ∧ y < i
    · rw [if_pos c2, if_pos (by omega)]
    · rw [if_neg c2, if_neg (by omega)]
theorem star_next {N i : Int} (h0 : 1 ≤ i) (h1 : i < N) : starUp i i = -1 ∧ 0 ≤ i ∧ i < N ∧ Way N (starUp i) 0 [0] ∧ i ∉ [(0 : Int)] := by
  refine ⟨if_neg (by omega), by omega, h1, Way.mk_root (by omega) (by omega) (if_neg (by omega)), ?_⟩
  simp
  omega
theorem star_way {N n k : Int} (hN : N = n) (h0 : 1 ≤ k) (h1 : k < n) : Way N (starUp n) k [k, 0] :=
  Way.mk_up (by omega) (by omega) (if_pos ⟨h0, h1⟩) (Way.mk_root (by omega) (by omega) (if_neg (by omega)))
/-- The star rooted anew at k. -/
def starAt (n k : Int) : Int → Int := fun y => if y = 0 then k else if y = k then -1 else if 1 ≤ y ∧ y < n then 0 else -1
theorem star_turn {n k : Int} (h0 : 1 ≤ k) (h1 : k < n) : turnUp (starUp n) [k, 0] = starAt n k := by
  funext y
  unfold starAt
  have hn : ([k, 0] : List Int).Nodup := by simp; omega
  by_cases c : y = 0
  · rw [if_pos c, c]
    exact turnUp_at (a := []) (b := []) hn
  · rw [if_neg c]
    by_cases c2 : y = k
    · rw [if_pos c2, c2]
      exact turnUp_head hn
    · rw [if_neg c2, turnUp_out (by simp; omega)]
      rfl
theorem starAt_top {N n k : Int} (hN : N = n) (h0 : 1 ≤ k) (h1 : k < n) : starAt n k 0 = k ∧ Way N (starAt n k) 0 ([0] ++ [k]) ∧ starAt n k k = -1 ∧ Way N (starAt n k) k ([] ++ [k]) := by
  have e1 : starAt n k 0 = k := if_pos rfl
  have e2 : starAt n k k = -1 := by
    unfold starAt
    rw [if_neg (by omega), if_pos rfl]
  have w1 : Way N (starAt n k) k [k] := Way.mk_root (by omega) (by omega) e2
  exact ⟨e1, Way.mk_up (by omega) (by omega) e1 w1, e2, w1⟩
theorem starAt_other {N n k i : Int} (hN : N = n) (h0 : 1 ≤ k) (h1 : k < n) (h2 : 1 ≤ i) (h3 : i < n) (hi : i ≠ k) : starAt n k i = 0 ∧ Way N (starAt n k) i ([i, 0] ++ [k]) := by
  have e1 : starAt n k i = 0 := by
    unfold starAt
    rw [if_neg (by omega), if_neg hi, if_pos ⟨h2, h3⟩]
  exact ⟨e1, Way.mk_up (by omega) (by omega) e1 (starAt_top hN h0 h1).2.1⟩
/-- All nodes below i cut off. -/
def cutTo (U : Int → Int) (i : Int) : Int → Int := fun y => if y < i then -1 else U y
theorem cutTo_zero {n k : Int} (h0 : 1 ≤ k) : cutTo (starAt n k) 0 = starAt n k := by
  funext y
  unfold cutTo
  split
  · unfold starAt
    rw [if_neg (by omega), if_neg (by omega), if_neg (by omega)]
  · rfl
theorem cutTo_put {U : Int → Int} {i : Int} : put (cutTo U i) i (-1) = cutTo U (i + 1) := by
  funext y
  unfold put cutTo
  by_cases c : y = i
  · rw [if_pos c, if_pos (by omega)]
  · rw [if_neg c]
    by_cases c2 : y < i
    · rw [if_pos c2, if_pos (by omega)]
    · rw [if_neg c2, if_neg (by omega)]
theorem cutTo_at {U : Int → Int} {i : Int} : cutTo U i i = U i := if_neg (by omega)
theorem cutTo_root {N : Int} {U : Int → Int} {i j : Int} (h0 : 0 ≤ j) (h1 : j < N) (h2 : j < i) : Way N (cutTo U i) j ([] ++ [j]) := Way.mk_root h0 h1 (if_pos h2)
theorem starAt_ne {n k i : Int} (h0 : 1 ≤ k) (h1 : k < n) (h2 : 0 ≤ i) (h3 : i < n) (hi : i ≠ k) : starAt n k i ≠ -1 := by
  unfold starAt
  by_cases c : i = 0
  · rw [if_pos c]; omega
  · rw [if_neg c, if_neg hi, if_pos (by omega)]; omega
end Go.Proofs.YtcnmbgijehnchaaW.Splay
