/- The calls, told by where an item stands. -/
import Derived.Test.YtcnmbgijehnchaaS25
set_option linter.unusedVariables false
set_option linter.unusedSimpArgs false
namespace Go.Proofs.YtcnmbgijehnchaaW.Splay
open Go.RowKit Go.Shelf Go.Proofs.YtcnmbgijehnchaaW.PrintWords Go.Proofs.YtcnmbgijehnchaaW.PrintLast Go.Proofs.YtcnmbgijehnchaaW.PrintMore Go.Proofs.YtcnmbgijehnchaaW.Mine
section
variable {w0 w w1 : World} {g gs gn N cap : Nat} {xs : List Int} {Ws Vs : List (List (Int × Int))} {W V L R : List (Int × Int)} {x y v : Int} {k : Nat}
theorem key_part (hk : (W.map Prod.fst)[k]? = some y) : ∃ L v R, W = L ++ (y, v) :: R ∧ L.length = k := by
  rw [List.getElem?_map] at hk
  obtain ⟨⟨a, v⟩, h1, rfl⟩ := Option.map_eq_some_iff.1 hk
  obtain ⟨h2, h3⟩ := List.getElem?_eq_some_iff.1 h1
  refine ⟨W.take k, v, W.drop (k + 1), ?_, by rw [List.length_take]; omega⟩
  have h4 := List.drop_eq_getElem_cons h2
  rw [h3] at h4
  rw [← h4, List.take_append_drop]
theorem key_mem (hk : (W.map Prod.fst)[k]? = some y) : y ∈ W.map Prod.fst := List.mem_of_getElem? hk
theorem Fm.place_i (h : Fm w0 w gs gn N cap Ws) (hW : W ∈ Ws) (hk : (W.map Prod.fst)[k]? = some y) :
    Calls Try.prog 21 #[.pointer (some ⟨gs, 0, none⟩), .int .i64 y] w fun e w' => e = .returned (.int .i64 (k : Int)) ∧ Fm w0 w' gs gn N cap Ws ∧ Ke gs gn w w' := by
  obtain ⟨L, v, R, rfl, rfl⟩ := key_part hk
  exact h.place hW
theorem Fm.at_i (h : Fm w0 w gs gn N cap Ws) (hW : W ∈ Ws) (hx : x ∈ W.map Prod.fst) (hk : (W.map Prod.fst)[k]? = some y) :
    Calls Try.prog 22 #[.pointer (some ⟨gs, 0, none⟩), .int .i64 x, .int .i64 (k : Int)] w fun e w' => e = .returned (.int .i64 y) ∧ Fm w0 w' gs gn N cap Ws ∧ Ke gs gn w w' := by
  have h1 := h.at hW hx (k : Int)
  rw [if_neg (by omega), Int.toNat_natCast, List.getD_eq_getElem?_getD, hk] at h1
  exact h1
theorem Fm.first_i (h : Fm w0 w gs gn N cap Ws) (hW : W ∈ Ws) (hx : x ∈ W.map Prod.fst) (hk : (W.map Prod.fst)[0]? = some y) :
    Calls Try.prog 23 #[.pointer (some ⟨gs, 0, none⟩), .int .i64 x] w fun e w' => e = .returned (.int .i64 y) ∧ Fm w0 w' gs gn N cap Ws ∧ Ke gs gn w w' := by
  obtain ⟨L, v, R, rfl, hl⟩ := key_part hk
  have hl := List.eq_nil_of_length_eq_zero hl
  subst hl
  exact h.first hW hx
theorem Fm.last_i (h : Fm w0 w gs gn N cap Ws) (hW : W ∈ Ws) (hx : x ∈ W.map Prod.fst) {m : Nat} (hm : W.length = m + 1) (hk : (W.map Prod.fst)[m]? = some y) :
    Calls Try.prog 24 #[.pointer (some ⟨gs, 0, none⟩), .int .i64 x] w fun e w' => e = .returned (.int .i64 y) ∧ Fm w0 w' gs gn N cap Ws ∧ Ke gs gn w w' := by
  obtain ⟨L, v, R, rfl, hl⟩ := key_part hk
  rw [List.length_append, List.length_cons, hl] at hm
  have hR := List.eq_nil_of_length_eq_zero (l := R) (by omega)
  subst hR
  exact h.last hW hx
theorem key_at {n : Nat} (hn : W.length = n) (hk : k < n) : ∃ y, (W.map Prod.fst)[k]? = some y ∧ y ∈ W.map Prod.fst := by
  have h1 : k < (W.map Prod.fst).length := by rw [List.length_map, hn]; exact hk
  exact ⟨(W.map Prod.fst)[k], List.getElem?_eq_getElem h1, List.getElem_mem h1⟩
theorem key_find (hx : x ∈ W.map Prod.fst) : ∃ k, k < W.length ∧ (W.map Prod.fst)[k]? = some x := by
  obtain ⟨k, hk, e⟩ := List.mem_iff_getElem.1 hx
  refine ⟨k, by rw [List.length_map] at hk; exact hk, ?_⟩
  rw [List.getElem?_eq_getElem hk, e]
theorem Vok.pair {vs : List Int} (hv : Vok vs Ws) (hW : W ∈ Ws) {i : Nat} (hx : (i : Int) ∈ W.map Prod.fst) : ((i : Int), vs.getD i 0) ∈ W := by
  obtain ⟨⟨a, u⟩, hy, e⟩ := List.mem_map.1 hx
  have h1 := hv W hW _ hy
  have e : a = (i : Int) := e
  subst e
  rw [Int.toNat_natCast] at h1
  have h1 : u = vs.getD i 0 := h1
  rw [← h1]
  exact hy
theorem wr3 (m : Nat) (h : m ≤ 1000000) : wrap64 ((m : Int) + 1 - 1) = (m : Int) ∧ IntKind.i64.wrap ((m : Int) + 1 - 1) = (m : Int) ∧ wrap64 (m : Int) = (m : Int) ∧ IntKind.i64.wrap (m : Int) = (m : Int) ∧ IntKind.i64.wrap (((m + 1 : Nat) : Int) - 1) = (m : Int) := by
  refine ⟨?_, ?_, ?_, ?_, ?_⟩
  · unfold wrap64; omega
  · rw [IntKind.wrap_i64]; omega
  · unfold wrap64; omega
  · rw [IntKind.wrap_i64]; omega
  · rw [IntKind.wrap_i64]; omega
end
end Go.Proofs.YtcnmbgijehnchaaW.Splay
