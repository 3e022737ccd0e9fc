/- What a path's nodes are worth, and its least one: plain Lean, no program. -/
import Derived.Test.YtcnmbgijehnchaaM6
import Derived.Test.YtcnmbgijehnchaaSS
set_option linter.unusedVariables false
set_option linter.unusedSimpArgs false
namespace Go.Proofs.YtcnmbgijehnchaaW.Splay
open Go.RowKit Go.Shelf Go.Proofs.YtcnmbgijehnchaaW.PrintWords Go.Proofs.YtcnmbgijehnchaaW.PrintLast Go.Proofs.YtcnmbgijehnchaaW.PrintMore Go.Proofs.YtcnmbgijehnchaaW.Mine
def pvs (n : Nat) : List Int := (List.range n).map fun i : Nat => (7 * (i : Int)).tmod 5
theorem pvs_take {n j : Nat} (h : j < n) : (pvs n).take (j + 1) = (pvs n).take j ++ [(7 * (j : Int)).tmod 5] := by
  rw [List.take_add_one]
  simp [pvs, h]
theorem pvs_bd (n : Nat) : ∀ v ∈ pvs n, 0 ≤ v ∧ v ≤ 4 := by
  intro v hv
  obtain ⟨i, hi, rfl⟩ := List.mem_map.1 hv
  have h1 := Int.tmod_nonneg 5 (show (0 : Int) ≤ 7 * (i : Int) by omega)
  have h2 := Int.tmod_lt_of_pos (7 * (i : Int)) (show (0 : Int) < 5 by decide)
  omega
theorem worth_bd {vs : List Int} (h : ∀ v ∈ vs, 0 ≤ v ∧ v ≤ 4) (x : Int) : 0 ≤ worth vs x ∧ worth vs x ≤ 4 := by
  unfold worth
  rw [List.getD_eq_getElem?_getD]
  cases hx : vs[x.toNat]? with
  | none => exact ⟨by decide, by decide⟩
  | some v => exact h v (List.mem_of_getElem? hx)
theorem worth_at {vs : List Int} {j : Nat} (h : j < vs.length) : vs[j]? = some (worth vs (j : Int)) := by
  unfold worth
  rw [Int.toNat_natCast, List.getD_eq_getElem?_getD, List.getElem?_eq_getElem h]
  rfl
section
variable {val : Int → Int} {P K : List Int} {y y2 d : Int}
theorem pair_key (K : List Int) : (K.map fun x => (x, val x)).map Prod.fst = K := by
  rw [List.map_map]
  conv => rhs; rw [← List.map_id K]
  rfl
theorem least_facts (h : FirstLeast (K.map fun x => (x, val x)) y) : ∃ kl : Nat, K[kl]? = some y ∧ ∀ (i : Nat) (u : Int), K[i]? = some u → val y ≤ val u ∧ (val u = val y → kl ≤ i) := by
  obtain ⟨kl, m, h1, h2, h3⟩ := least_at h
  rw [pair_key] at h2
  obtain ⟨x, hx, e⟩ := List.mem_map.1 h1
  have hm : m = val y := by
    injection e with e1 e2
    rw [← e2, e1]
  refine ⟨kl, h2, fun i u hu => ?_⟩
  have h4 := h3 i (u, val u) (by rw [List.getElem?_map, hu]; rfl)
  rw [hm] at h4
  exact h4
theorem at_once {i j : Nat} {u : Int} (hn : K.Nodup) (hi : K[i]? = some u) (hj : K[j]? = some u) : i = j := by
  obtain ⟨hi1, hi2⟩ := List.getElem?_eq_some_iff.1 hi
  obtain ⟨hj1, hj2⟩ := List.getElem?_eq_some_iff.1 hj
  exact (List.getElem_inj hn).1 (hi2.trans hj2.symm)
theorem least_uniq (hs : ∀ x ∈ K, shiftUp val P d x = val x + d) (h : FirstLeast (K.map fun x => (x, val x)) y) (h2 : FirstLeast (K.map fun x => (x, shiftUp val P d x)) y2) : y2 = y := by
  obtain ⟨k1, a1, b1⟩ := least_facts h
  obtain ⟨k2, a2, b2⟩ := least_facts h2
  have e1 := hs y (List.mem_of_getElem? a1)
  have e2 := hs y2 (List.mem_of_getElem? a2)
  have c1 := b1 k2 y2 a2
  have c2 := b2 k1 y a1
  rw [e1, e2] at c2
  have e3 : val y2 = val y := by omega
  have d1 := c1.2 e3
  have d2 := c2.2 (by omega)
  have d3 : k1 = k2 := Nat.le_antisymm d1 d2
  rw [d3] at a1
  exact Option.some.inj (a2.symm.trans a1)
theorem shift_on {x : Int} (h : x ∈ P) : shiftUp val P d x = val x + d := if_pos h
theorem shift_off {x : Int} (h : x ∉ P) : shiftUp val P d x = val x := if_neg h
theorem take_hit {i : Nat} {u x : Int} (hu : K[i]? = some u) : (x ∈ K.take (i + 1)) ↔ (x ∈ K.take i ∨ x = u) := by
  rw [List.take_add_one, hu]
  simp
theorem take_new {i : Nat} {u : Int} (hn : K.Nodup) (hu : K[i]? = some u) : u ∉ K.take i := fun h => by
  obtain ⟨j, hj, e⟩ := List.mem_take_iff_getElem.1 h
  have h1 : K[j]? = some u := by rw [← e]; exact List.getElem?_eq_getElem _
  have := at_once hn hu h1
  omega
/-- What was summed up to a place of the path. -/
def sumTo (val : Int → Int) (K : List Int) (d : Int) (x : Int) (i : Nat) : Int := if x ∈ K.take i then val x + d else val x
theorem sum_0 {x : Int} : sumTo val K d x 0 = val x := by
  unfold sumTo
  rw [List.take_zero, if_neg (by simp)]
theorem sum_hit {i : Nat} {x : Int} (hn : K.Nodup) (hu : K[i]? = some x) : sumTo val K d x i = val x ∧ sumTo val K d x (i + 1) = val x + d :=
  ⟨if_neg (take_new hn hu), if_pos ((take_hit hu).2 (.inr rfl))⟩
theorem sum_miss {i : Nat} {u x : Int} (hu : K[i]? = some u) (hx : u ≠ x) : sumTo val K d x (i + 1) = sumTo val K d x i := by
  unfold sumTo
  by_cases c : x ∈ K.take i
  · rw [if_pos c, if_pos ((take_hit hu).2 (.inl c))]
  · rw [if_neg c, if_neg (fun h => ((take_hit hu).1 h).elim c (fun e => hx e.symm))]
theorem sum_all {x : Int} {L : Nat} (hL : P.length = L) : sumTo val P.reverse d x L = shiftUp val P d x := by
  unfold sumTo shiftUp
  rw [List.take_of_length_le (by rw [List.length_reverse, hL]; exact Nat.le_refl _)]
  by_cases c : x ∈ P
  · rw [if_pos c, if_pos (List.mem_reverse.2 c)]
  · rw [if_neg c, if_neg (fun h => c (List.mem_reverse.1 h))]
end
/-- The place of the least one, once it was met. -/
def kOf (kl i : Nat) : Int := if kl < i then (kl : Int) else -1
theorem kOf_lo {kl i : Nat} (h : i ≤ kl) : kOf kl i = -1 := if_neg (by omega)
theorem kOf_hi {kl i : Nat} (h : kl < i) : kOf kl i = (kl : Int) := if_pos h
theorem kOf_next {kl i : Nat} (h : i ≠ kl) : kOf kl (i + 1) = kOf kl i := by
  unfold kOf
  by_cases c : kl < i
  · rw [if_pos c, if_pos (by omega)]
  · rw [if_neg c, if_neg (by omega)]
theorem add_small {D : Ad} {w0 w : World} {up val : Int → Int} {p : List Int} {v d : Int} (h : Tm D w0 w up val) (hp : Way (D.N : Int) up v p) (hb : ∀ x, 0 ≤ val x ∧ val x ≤ 4) (hd : -1000 ≤ d ∧ d ≤ 1000) :
    Calls Try.prog 38 #[.pointer (some ⟨D.gt, 0, none⟩), .int .i64 v, .int .i64 d] w fun e w' => e = .returned (.int .i64 0) ∧ Tm D w0 w' up (shiftUp val p d) ∧ Kt D w w' := by
  refine (tadd_calls h hp ⟨by omega, by omega⟩).mono ?_
  rintro e w' ⟨⟨e1, _, e2⟩ | ⟨_, ⟨y, _, e1⟩, _⟩, e3⟩
  · exact ⟨e1, e2, e3⟩
  · exact absurd (by have h_ := hb y; omega) e1
theorem RdA.at2 {W : World} {A : Option Addr} {l : List Ac} (h : RdA W A l) {j : Nat} (hj : j < l.length) : ∃ a c, A = some a ∧ l[j]? = some c ∧ c.wf ∧ ∀ W1, Below W.heap.size W W1 → W1.cell? (a.add (j * 4)) = some (.int .i64 c.op) ∧ W1.cell? ⟨(a.add (j * 4)).block, (a.add (j * 4)).off + 1, none⟩ = some (.int .i64 c.x) ∧ W1.cell? ⟨(a.add (j * 4)).block, (a.add (j * 4)).off + 2, none⟩ = some (.int .i64 c.y) := by
  obtain ⟨hw, e | ⟨a, e, h⟩⟩ := h
  · subst e; simp at hj
  · have e1 : l[j]? = some l[j] := List.getElem?_eq_getElem hj
    obtain ⟨h0, h1, h2, h3⟩ := h j l[j] e1
    exact ⟨a, l[j], e, e1, hw _ (List.getElem_mem hj), fun W1 hb => ⟨pw_cell_below hb h0, pw_cell_below hb h1, pw_cell_below hb h2⟩⟩
end Go.Proofs.YtcnmbgijehnchaaW.Splay
