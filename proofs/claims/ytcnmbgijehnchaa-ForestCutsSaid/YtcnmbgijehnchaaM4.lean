/- Trees whose nodes hang below lesser ones: plain Lean, no program. -/
import Derived.Test.YtcnmbgijehnchaaM0
set_option linter.unusedVariables false
set_option linter.unusedSimpArgs false
namespace Go.Proofs.YtcnmbgijehnchaaW.Splay
open Go.RowKit Go.Shelf Go.Proofs.YtcnmbgijehnchaaW.PrintWords Go.Proofs.YtcnmbgijehnchaaW.PrintLast Go.Proofs.YtcnmbgijehnchaaW.PrintMore Go.Proofs.YtcnmbgijehnchaaW.Mine
/-- The nodes from 1 on, below i, hang where u says. -/
def treeUp (u : Int → Int) (i : Int) : Int → Int := fun y => if 1 ≤ y ∧ y < i then u y else -1
/-- What the array of who is above whom holds. -/
def treeArr (u : Int → Int) (i : Int) : Nat → Value := fun j => .int .i64 (if 1 ≤ (j : Int) ∧ (j : Int) < i then u (j : Int) else 0)
section
variable {u : Int → Int} {N n i k : Int}
theorem tree_bare : treeUp u 1 = bare := by
  funext y
  exact if_neg (by omega)
theorem tree_put (h : 1 ≤ i) : put (treeUp u i) i (u i) = treeUp u (i + 1) := by
  funext y
  unfold put treeUp
  by_cases c : y = i
  · rw [if_pos c, if_pos (by omega), c]
  · rw [if_neg c]
    by_cases c2 : 1 ≤ y ∧ y < i
    · rw [if_pos c2, if_pos (by omega)]
    · rw [if_neg c2, if_neg (by omega)]
theorem tree_arr {i : Nat} (h : 1 ≤ i) (j : Nat) : (if j = i then Value.int .i64 (u (i : Int)) else treeArr u (i : Int) j) = treeArr u ((i : Int) + 1) j := by
  unfold treeArr
  by_cases c : j = i
  · rw [if_pos c, if_pos (by omega), c]
  · rw [if_neg c]
    by_cases c2 : 1 ≤ (j : Int) ∧ (j : Int) < (i : Int)
    · rw [if_pos c2, if_pos (by omega)]
    · rw [if_neg c2, if_neg (by omega)]
theorem tree_le (hu : ∀ y, 1 ≤ y → y < i → 0 ≤ u y ∧ u y < y) : ∀ {l : List Int} {x : Int}, IsPath (treeUp u i) (x :: l) → (∀ y ∈ x :: l, 0 ≤ y) → ∀ y ∈ x :: l, y ≤ x
  | [], x, _, _, y, hy => by rw [List.mem_singleton.1 hy]; exact Int.le_refl _
  | z :: l, x, h, h0, y, hy => by
    rcases List.mem_cons.1 hy with rfl | hy
    · exact Int.le_refl _
    · have h1 := tree_le hu h.2 (fun y hy => h0 y (List.mem_cons_of_mem _ hy)) y hy
      have h2 : treeUp u i x = z := h.1
      have h3 := h0 z (by simp)
      unfold treeUp at h2
      split at h2
      · rename_i c
        have := hu x c.1 c.2
        omega
      · omega
theorem tree_next (hu : ∀ y, 1 ≤ y → y < N → 0 ≤ u y ∧ u y < y) (ho : Ok N (treeUp u i)) (h0 : 1 ≤ i) (h1 : i < N) : treeUp u i i = -1 ∧ 0 ≤ i ∧ i < N ∧ ∃ q, Way N (treeUp u i) (u i) q ∧ i ∉ q := by
  have h2 := hu i h0 h1
  obtain ⟨q, hq⟩ := ho (u i) h2.1 (by omega)
  refine ⟨if_neg (by omega), by omega, h1, q, hq, fun hi => ?_⟩
  obtain ⟨l, rfl⟩ := hq.cons
  have h3 := tree_le (fun y a b => hu y a (by omega)) hq.path (fun y hy => (hq.rng y hy).1) i hi
  omega
/-- Node k cut off. -/
def cutOff (u : Int → Int) (n k : Int) : Int → Int := put (treeUp u n) k (-1)
theorem cutOff_k : cutOff u n k k = -1 := put_same _ _ _
theorem cutOff_0 (h0 : 1 ≤ k) : cutOff u n k 0 = -1 := (put_ne (by omega)).trans (if_neg (by omega))
theorem cutOff_i (h0 : 1 ≤ i) (h1 : i < n) (hk : i ≠ k) : cutOff u n k i = u i := (put_ne hk).trans (if_pos ⟨h0, h1⟩)
theorem tree_at (h0 : 1 ≤ k) (h1 : k < n) (hu : ∀ y, 1 ≤ y → y < n → 0 ≤ u y ∧ u y < y) : treeUp u n k ≠ -1 := by
  have h2 := hu k h0 h1
  have e : treeUp u n k = u k := if_pos ⟨h0, h1⟩
  omega
theorem cutOff_wk (hN : N = n) (h0 : 1 ≤ k) (h1 : k < n) : Way N (cutOff u n k) k ([] ++ [k]) := Way.mk_root (by omega) (by omega) cutOff_k
theorem cutOff_w0 (hN : N = n) (h0 : 1 ≤ k) (h1 : k < n) : Way N (cutOff u n k) 0 ([] ++ [0]) := Way.mk_root (by omega) (by omega) (cutOff_0 h0)
end
/-- What is told to be below k, as far as it was told. -/
structure Bi (N : Int) (V : Int → Int) (k : Int) (n i : Nat) (b : Nat → Bool) : Prop where
  all : ∀ j, j < n → (b j = true ∧ ((j : Int) = k ∨ j < i) ∧ ∃ a : List Int, Way N V (j : Int) (a ++ [k])) ∨ (b j = false ∧ (j : Int) ≠ k ∧ (j < i → ∃ a : List Int, Way N V (j : Int) (a ++ [0])))
section
variable {u : Int → Int} {N k : Int} {n i p : Nat} {b : Nat → Bool}
theorem bi_start (hN : N = (n : Int)) (h0 : 1 ≤ k) (h1 : k < (n : Int)) : Bi N (cutOff u (n : Int) k) k n 1 (fun j => decide ((j : Int) = k)) := ⟨fun j hj => by
  by_cases c : (j : Int) = k
  · exact .inl ⟨decide_eq_true c, .inl c, [], by rw [c]; exact cutOff_wk hN h0 h1⟩
  · refine .inr ⟨decide_eq_false c, c, fun h => ⟨[], ?_⟩⟩
    have e : (j : Int) = 0 := by omega
    rw [e]
    exact cutOff_w0 hN h0 h1⟩
theorem bi_k (h : Bi N (cutOff u (n : Int) k) k n i b) (hN : N = (n : Int)) (h0 : 1 ≤ k) (hi : i < n) (hik : (i : Int) = k) : b i = true ∧ Bi N (cutOff u (n : Int) k) k n (i + 1) b := by
  constructor
  · rcases h.all i hi with ⟨h1, _⟩ | ⟨_, h1, _⟩
    · exact h1
    · exact absurd hik h1
  · refine ⟨fun j hj => ?_⟩
    rcases h.all j hj with ⟨h1, h2, h3⟩ | ⟨h1, h2, h3⟩
    · exact .inl ⟨h1, by omega, h3⟩
    · exact .inr ⟨h1, h2, fun h4 => h3 (by omega)⟩
theorem bi_t (h : Bi N (cutOff u (n : Int) k) k n i b) (hN : N = (n : Int)) (h0 : 1 ≤ i) (hi : i < n) (hik : (i : Int) ≠ k) (hp : u (i : Int) = (p : Int)) (hpn : p < n) (hb : b p = true) : Bi N (cutOff u (n : Int) k) k n (i + 1) (fun j => if j = i then true else b j) ∧ ∃ a : List Int, Way N (cutOff u (n : Int) k) (i : Int) (a ++ [k]) := by
  have hw : ∃ a : List Int, Way N (cutOff u (n : Int) k) (i : Int) (a ++ [k]) := by
    rcases h.all p hpn with ⟨_, _, a, h1⟩ | ⟨h1, _⟩
    · exact ⟨(i : Int) :: a, Way.mk_up (by omega) (by omega) ((cutOff_i (by omega) (by omega) hik).trans hp) h1⟩
    · rw [hb] at h1; exact absurd h1 (by decide)
  refine ⟨⟨fun j hj => ?_⟩, hw⟩
  by_cases c : j = i
  · subst c
    exact .inl ⟨if_pos rfl, .inr (by omega), hw⟩
  · rcases h.all j hj with ⟨h1, h2, h3⟩ | ⟨h1, h2, h3⟩
    · exact .inl ⟨(if_neg c).trans h1, by omega, h3⟩
    · exact .inr ⟨(if_neg c).trans h1, h2, fun h4 => h3 (by omega)⟩
theorem bi_f (h : Bi N (cutOff u (n : Int) k) k n i b) (hN : N = (n : Int)) (h0 : 1 ≤ i) (hi : i < n) (hik : (i : Int) ≠ k) (hp : u (i : Int) = (p : Int)) (hpi : p < i) (hb : b p = false) : Bi N (cutOff u (n : Int) k) k n (i + 1) b ∧ b i = false ∧ ∃ a : List Int, Way N (cutOff u (n : Int) k) (i : Int) (a ++ [0]) := by
  have hw : ∃ a : List Int, Way N (cutOff u (n : Int) k) (i : Int) (a ++ [0]) := by
    rcases h.all p (by omega) with ⟨h1, _⟩ | ⟨_, _, h1⟩
    · rw [hb] at h1; exact absurd h1 (by decide)
    · obtain ⟨a, h2⟩ := h1 hpi
      exact ⟨(i : Int) :: a, Way.mk_up (by omega) (by omega) ((cutOff_i (by omega) (by omega) hik).trans hp) h2⟩
  have hf : b i = false := by
    rcases h.all i hi with ⟨_, h1, _⟩ | ⟨h1, _⟩
    · omega
    · exact h1
  refine ⟨⟨fun j hj => ?_⟩, hf, hw⟩
  rcases h.all j hj with ⟨h1, h2, h3⟩ | ⟨h1, h2, h3⟩
  · exact .inl ⟨h1, by omega, h3⟩
  · refine .inr ⟨h1, h2, fun h4 => ?_⟩
    by_cases c : j = i
    · subst c; exact hw
    · exact h3 (by omega)
end
end Go.Proofs.YtcnmbgijehnchaaW.Splay
