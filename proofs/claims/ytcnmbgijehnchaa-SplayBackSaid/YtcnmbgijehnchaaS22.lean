/- Rows that are joined one item after the other: plain words for the laws. -/
import Derived.Test.YtcnmbgijehnchaaS21
set_option linter.unusedVariables false
set_option linter.unusedSimpArgs false
namespace Go.Proofs.YtcnmbgijehnchaaW.Splay
open Go.RowKit Go.Shelf Go.Proofs.YtcnmbgijehnchaaW.PrintWords Go.Proofs.YtcnmbgijehnchaaW.PrintLast Go.Proofs.YtcnmbgijehnchaaW.PrintMore Go.Proofs.YtcnmbgijehnchaaW.Mine
theorem wr1 (j : Nat) (h : j ≤ 1000000000) : wrap64 ((j : Int) + 1) = ((j + 1 : Nat) : Int) := by unfold wrap64; omega
def item (vs : List Int) (j : Nat) : Int × Int := ((j : Int), vs.getD j 0)
def rowTo (vs : List Int) (i : Nat) : List (Int × Int) := (List.range i).map (item vs)
def singles (vs : List Int) (i : Nat) : List (List (Int × Int)) := ((List.range vs.length).drop i).map fun j => [item vs j]
def rowsAt (vs : List Int) (i : Nat) : List (List (Int × Int)) := rowTo vs i :: singles vs i
theorem drop_range {n i : Nat} (h : i < n) : (List.range n).drop i = i :: (List.range n).drop (i + 1) := by
  rw [List.drop_eq_getElem_cons (by simpa using h)]
  simp
theorem singles_cons {vs : List Int} {i : Nat} (h : i < vs.length) : singles vs i = [item vs i] :: singles vs (i + 1) := by
  unfold singles
  rw [drop_range h]
  rfl
theorem rows_one {vs : List Int} (h : 0 < vs.length) : ones vs = rowsAt vs 1 := by
  have e : ones vs = singles vs 0 := by
    unfold singles
    rw [List.drop_zero]
    rfl
  rw [e, singles_cons h]
  rfl
theorem rowTo_succ (vs : List Int) (i : Nat) : rowTo vs (i + 1) = rowTo vs i ++ [item vs i] := by
  unfold rowTo
  rw [List.range_succ, List.map_append]
  rfl
theorem rowTo_keys (vs : List Int) (i : Nat) : (rowTo vs i).map Prod.fst = (List.range i).map fun j : Nat => (j : Int) := by
  unfold rowTo
  rw [List.map_map]
  rfl
theorem rowTo_mem {vs : List Int} {i j : Nat} (h : j < i) : (j : Int) ∈ (rowTo vs i).map Prod.fst := by
  rw [rowTo_keys]
  exact List.mem_map.2 ⟨j, List.mem_range.2 h, rfl⟩
theorem rowTo_at {vs : List Int} {i j : Nat} (h : j < i) : (rowTo vs i)[j]? = some (item vs j) := by
  unfold rowTo
  rw [List.getElem?_map, List.getElem?_range h]
  rfl
theorem rowTo_length (vs : List Int) (i : Nat) : (rowTo vs i).length = i := by simp [rowTo]
/-- A row of all, parted at an item. -/
theorem rowTo_part {vs : List Int} {n : Nat} {L R : List (Int × Int)} {y m : Int} (h : rowTo vs n = L ++ (y, m) :: R) :
    L.length < n ∧ y = (L.length : Int) ∧ m = vs.getD L.length 0 ∧ (∀ i, i < L.length → item vs i ∈ L) ∧ ∀ i, L.length < i → i < n → item vs i ∈ R := by
  have hl : n = L.length + (R.length + 1) := by
    have h1 := congrArg List.length h
    rw [rowTo_length, List.length_append, List.length_cons] at h1
    exact h1
  have hp := rowTo_at (vs := vs) (i := n) (j := L.length) (by omega)
  rw [h, List.getElem?_append_right (Nat.le_refl _), Nat.sub_self] at hp
  have hp := Option.some.inj hp
  injection hp with e1 e2
  refine ⟨by omega, e1, e2, fun i hi => ?_, fun i h1 h2 => ?_⟩
  · have h3 := rowTo_at (vs := vs) (i := n) (j := i) (by omega)
    rw [h, List.getElem?_append_left hi] at h3
    exact List.mem_of_getElem? h3
  · have h3 := rowTo_at (vs := vs) (i := n) (j := i) h2
    rw [h, List.getElem?_append_right (by omega), show i - L.length = (i - L.length - 1) + 1 by omega, List.getElem?_cons_succ] at h3
    exact List.mem_of_getElem? h3
/-- Which one of those told is the first of the least, and which the last. -/
structure Mins (vs : List Int) (j f l : Nat) : Prop where
  zero : j = 0 → f = 0 ∧ l = 0
  lt : 0 < j → f < j ∧ l < j
  first : ∀ i, i < j → vs.getD f 0 ≤ vs.getD i 0
  last : ∀ i, i < j → vs.getD l 0 ≤ vs.getD i 0
  ahead : ∀ i, i < f → vs.getD f 0 < vs.getD i 0
  behind : ∀ i, l < i → i < j → vs.getD l 0 < vs.getD i 0
theorem Mins.none (vs : List Int) : Mins vs 0 0 0 := ⟨fun _ => ⟨rfl, rfl⟩, fun h => by omega, fun i h => by omega, fun i h => by omega, fun i h => by omega, fun i h => by omega⟩
theorem Mins.step {vs : List Int} {j f l : Nat} (h : Mins vs j f l) : Mins vs (j + 1) (if vs.getD j 0 < vs.getD f 0 then j else f) (if vs.getD j 0 ≤ vs.getD l 0 then j else l) := by
  obtain ⟨h0, h1, h2, h3, h4, h5⟩ := h
  rcases Nat.eq_zero_or_pos j with rfl | hj
  · obtain ⟨rfl, rfl⟩ := h0 rfl
    rw [if_neg (by omega), if_pos (Int.le_refl _)]
    refine ⟨fun h => by omega, fun _ => ⟨by omega, by omega⟩, fun i hi => ?_, fun i hi => ?_, fun i hi => by omega, fun i h1 h2 => by omega⟩ <;> obtain rfl : i = 0 := by omega
    · exact Int.le_refl _
    · exact Int.le_refl _
  · obtain ⟨a, b⟩ := h1 hj
    refine ⟨fun h => by omega, fun _ => ?_, fun i hi => ?_, fun i hi => ?_, fun i hi => ?_, fun i hi hi2 => ?_⟩
    · constructor <;> split <;> omega
    · by_cases c : vs.getD j 0 < vs.getD f 0
      · rw [if_pos c]
        by_cases e : i = j
        · subst e; exact Int.le_refl _
        · have := h2 i (by omega); omega
      · rw [if_neg c]
        by_cases e : i = j
        · subst e; omega
        · exact h2 i (by omega)
    · by_cases c : vs.getD j 0 ≤ vs.getD l 0
      · rw [if_pos c]
        by_cases e : i = j
        · subst e; exact Int.le_refl _
        · have := h3 i (by omega); omega
      · rw [if_neg c]
        by_cases e : i = j
        · subst e; omega
        · exact h3 i (by omega)
    · by_cases c : vs.getD j 0 < vs.getD f 0
      · rw [if_pos c] at hi ⊢
        have := h2 i (by omega); omega
      · rw [if_neg c] at hi ⊢
        exact h4 i hi
    · by_cases c : vs.getD j 0 ≤ vs.getD l 0
      · rw [if_pos c] at hi ⊢
        omega
      · rw [if_neg c] at hi ⊢
        by_cases e : i = j
        · subst e; omega
        · exact h5 i hi (by omega)
theorem Mins.is_first {vs : List Int} {n f l : Nat} {y : Int} (h : Mins vs n f l) (hy : FirstLeast (rowTo vs n) y) : y = (f : Int) := by
  obtain ⟨L, m, R, e, h1, h2⟩ := hy
  obtain ⟨k1, k2, k3, k4, k5⟩ := rowTo_part e
  obtain ⟨_, hlt, h3, _, h4, _⟩ := h
  have hf := (hlt (by omega)).1
  rcases Nat.lt_trichotomy L.length f with c | c | c
  · have a1 := h4 L.length c
    have a2 := h2 _ (k5 f c hf)
    have : (item vs f).2 = vs.getD f 0 := rfl
    omega
  · omega
  · have a1 := h1 _ (k4 f c)
    have a2 := h3 L.length k1
    have : (item vs f).2 = vs.getD f 0 := rfl
    omega
theorem Mins.is_last {vs : List Int} {n f l : Nat} {y : Int} (h : Mins vs n f l) (hy : FirstLeast (rowTo vs n).reverse y) : y = (l : Int) := by
  obtain ⟨L, m, R, e, h1, h2⟩ := hy
  have e2 : rowTo vs n = R.reverse ++ (y, m) :: L.reverse := by
    have h3 := congrArg List.reverse e
    rw [List.reverse_reverse] at h3
    rw [h3]
    simp
  obtain ⟨k1, k2, k3, k4, k5⟩ := rowTo_part e2
  obtain ⟨_, hlt, _, h3, _, h4⟩ := h
  have hf := (hlt (by omega)).2
  rcases Nat.lt_trichotomy R.reverse.length l with c | c | c
  · have a1 := h1 _ (List.mem_reverse.1 (k5 l c hf))
    have a2 := h3 R.reverse.length k1
    have : (item vs l).2 = vs.getD l 0 := rfl
    omega
  · omega
  · have a1 := h2 _ (List.mem_reverse.1 (k4 l c))
    have a2 := h4 R.reverse.length c k1
    have : (item vs l).2 = vs.getD l 0 := rfl
    omega
section
variable {w0 w : World} {gs gn N cap : Nat} {vs : List Int} {i : Nat}
/-- One item more is joined behind. -/
theorem Fm.join_next (h : Fm w0 w gs gn N cap (rowsAt vs i)) {j : Nat} (hj : j < i) (hi : i < vs.length) :
    Calls Try.prog 15 #[.pointer (some ⟨gs, 0, none⟩), .int .i64 (j : Int), .int .i64 (i : Int)] w fun e w' => e = .returned (.int .i64 0) ∧ Fm w0 w' gs gn N cap (rowsAt vs (i + 1)) ∧ Ke gs gn w w' := by
  unfold rowsAt at h ⊢
  rw [singles_cons hi] at h
  rw [rowTo_succ]
  exact h.join (List.Perm.refl _) (rowTo_mem hj) (show (i : Int) ∈ [(i : Int)] from List.mem_singleton.2 rfl)
theorem own_cell {W : World} {base e : Nat} {g n c : Nat} {xs : List Int} (h : W.ownsRow base e 1 (.slice (some ⟨g, 0, none⟩) n c) n (ints xs)) {j : Nat} (hj : j < xs.length) : W.cell? ⟨g, j, none⟩ = some (.int .i64 (xs.getD j 0)) := by
  obtain ⟨A, c2, e1, _, _, h1, _⟩ := Rds.own h
  injection e1 with e2 _ _
  obtain ⟨a, e3, h2⟩ := h1.at hj
  rw [← e2] at e3
  injection e3 with e3
  rw [← e3] at h2
  have e4 : (⟨g, 0, none⟩ : Addr).add j = ⟨g, j, none⟩ := by simp [Addr.add]; intro e; exact e.symm
  rw [e4] at h2
  rw [h2, getD_at hj]
end
end Go.Proofs.YtcnmbgijehnchaaW.Splay
