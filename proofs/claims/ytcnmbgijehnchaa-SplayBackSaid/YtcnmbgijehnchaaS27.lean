/- A new forest of values that are too great; sums that come back. -/
import Derived.Test.YtcnmbgijehnchaaS26
set_option linter.unusedVariables false
set_option linter.unusedSimpArgs false
namespace Go.Proofs.YtcnmbgijehnchaaW.Splay
open Go.RowKit Go.Shelf Go.Proofs.YtcnmbgijehnchaaW.PrintWords Go.Proofs.YtcnmbgijehnchaaW.PrintLast Go.Proofs.YtcnmbgijehnchaaW.PrintMore Go.Proofs.YtcnmbgijehnchaaW.Mine
section
variable {w0 w : World} {gs gn N cap : Nat} {Ws Vs : List (List (Int × Int))} {W : List (Int × Int)} {x d : Int}
theorem new_outn {A : Option Addr} {vs : List Int} {c n : Nat} (hn : vs.length = n) (hb : Below w0.heap.size w0 w) (hr : Rds w A vs) (h1 : n ≤ 3000) (hv : ¬ ∀ v ∈ vs, -4611686018427387904 ≤ v ∧ v ≤ 4611686018427387904) :
    Calls Try.prog 14 #[.slice A n c] w fun e w' => e = .returned (.tuple #[.pointer none, .int .i64 3]) ∧ Below w.heap.size w w' := by
  subst hn
  exact new_out hb hr h1 hv
/-- What is added to a row. -/
def shiftW (d : Int) (W : List (Int × Int)) : List (Int × Int) := W.map fun y => (y.1, y.2 + d)
def FitsW (d : Int) (W : List (Int × Int)) : Prop := ∀ y ∈ W, -4611686018427387904 ≤ y.2 + d ∧ y.2 + d ≤ 4611686018427387904
theorem shift_keys (d : Int) (W : List (Int × Int)) : (shiftW d W).map Prod.fst = W.map Prod.fst := by simp [shiftW, List.map_map, Function.comp_def]
theorem shift_back (d : Int) (W : List (Int × Int)) : shiftW (-d) (shiftW d W) = W := by
  unfold shiftW
  rw [List.map_map]
  conv => rhs; rw [← List.map_id W]
  refine List.map_congr_left (fun y _ => ?_)
  show (y.1, y.2 + d + -d) = y
  rw [show y.2 + d + -d = y.2 by omega]
theorem Fm.add_ok (h : Fm w0 w gs gn N cap [W]) (hx : x ∈ W.map Prod.fst) (hd : -1000 ≤ d ∧ d ≤ 1000) (hf : FitsW d W) :
    Calls Try.prog 26 #[.pointer (some ⟨gs, 0, none⟩), .int .i64 x, .int .i64 d] w fun e w' => e = .returned (.int .i64 0) ∧ Fm w0 w' gs gn N cap [shiftW d W] ∧ Ke gs gn w w' := by
  refine (h.add (List.Perm.refl _) hx (by omega)).mono ?_
  rintro e w' ⟨⟨he, _, hF⟩ | ⟨_, ⟨y, hy, hn⟩, _⟩, hK⟩
  · exact ⟨he, hF, hK⟩
  · exact absurd (hf y hy) hn
theorem Fm.add_no (h : Fm w0 w gs gn N cap [W]) (hx : x ∈ W.map Prod.fst) (hd : -1000 ≤ d ∧ d ≤ 1000) (hf : ¬ FitsW d W) :
    Calls Try.prog 26 #[.pointer (some ⟨gs, 0, none⟩), .int .i64 x, .int .i64 d] w fun e w' => e = .returned (.int .i64 3) ∧ Fm w0 w' gs gn N cap [W] ∧ Ke gs gn w w' := by
  refine (h.add (List.Perm.refl _) hx (by omega)).mono ?_
  rintro e w' ⟨⟨_, ha, _⟩ | ⟨he, _, hF⟩, hK⟩
  · exact absurd ha hf
  · exact ⟨he, hF, hK⟩
theorem shift_zero (W : List (Int × Int)) : shiftW 0 W = W := by
  unfold shiftW
  conv => rhs; rw [← List.map_id W]
  refine List.map_congr_left (fun y _ => ?_)
  show (y.1, y.2 + 0) = y
  rw [Int.add_zero]
theorem Fm.add_any (h : Fm w0 w gs gn N cap [W]) (hx : x ∈ W.map Prod.fst) (hd : -1000 ≤ d ∧ d ≤ 1000) :
    Calls Try.prog 26 #[.pointer (some ⟨gs, 0, none⟩), .int .i64 x, .int .i64 d] w fun e w' => ∃ r c, e = .returned (.int .i64 r) ∧ Fm w0 w' gs gn N cap [shiftW c W] ∧ Ke gs gn w w' ∧ ((r = 0 ∧ c = d) ∨ (r = 3 ∧ c = 0 ∧ ¬ FitsW d W)) := by
  by_cases hf : FitsW d W
  · refine (h.add_ok hx hd hf).mono ?_
    rintro e w' ⟨he, hF, hK⟩
    exact ⟨0, d, he, hF, hK, .inl ⟨rfl, rfl⟩⟩
  · refine (h.add_no hx hd hf).mono ?_
    rintro e w' ⟨he, hF, hK⟩
    exact ⟨3, 0, he, by rw [shift_zero]; exact hF, hK, .inr ⟨rfl, rfl, hf⟩⟩
theorem fits_back (h : ∀ y ∈ W, -4611686018427387904 ≤ y.2 ∧ y.2 ≤ 4611686018427387904) : FitsW (-d) (shiftW d W) := by
  intro y hy
  obtain ⟨z, hz, rfl⟩ := List.mem_map.1 hy
  have := h z hz
  show -4611686018427387904 ≤ z.2 + d + -d ∧ z.2 + d + -d ≤ _
  omega
theorem Fm.add_two {r c : Int} (h : Fm w0 w gs gn N cap [shiftW c W]) (hb : ∀ y ∈ W, -4611686018427387904 ≤ y.2 ∧ y.2 ≤ 4611686018427387904) (hx : x ∈ W.map Prod.fst) (hd : -1000 ≤ -d ∧ -d ≤ 1000) (hc : (r = 0 ∧ c = d) ∨ (r = 3 ∧ c = 0 ∧ ¬ FitsW d W)) :
    Calls Try.prog 26 #[.pointer (some ⟨gs, 0, none⟩), .int .i64 x, .int .i64 (-d)] w fun e w' => ∃ r2 c2, e = .returned (.int .i64 r2) ∧ Fm w0 w' gs gn N cap [shiftW c2 W] ∧ Ke gs gn w w' ∧ ((r = 0 ∧ r2 = 0 ∧ c2 = 0) ∨ r = 3) := by
  rcases hc with ⟨rfl, rfl⟩ | ⟨rfl, rfl, _⟩
  · refine (h.add_ok (by rw [shift_keys]; exact hx) hd (fits_back hb)).mono ?_
    rintro e w' ⟨he, hF, hK⟩
    rw [shift_back] at hF
    exact ⟨0, 0, he, by rw [shift_zero]; exact hF, hK, .inl ⟨rfl, rfl, rfl⟩⟩
  · rw [shift_zero] at h
    refine (h.add_any hx hd).mono ?_
    rintro e w' ⟨r2, c2, he, hF, hK, _⟩
    exact ⟨r2, c2, he, hF, hK, .inr rfl⟩
theorem wrd {d : Int} (h : -1000 ≤ d ∧ d ≤ 1000) : wrap64 (-d) = -d ∧ wrap64 d = d := by
  constructor <;> unfold wrap64 <;> omega
theorem tmod_small (d : Int) : -1000 ≤ Int.tmod d 1000 ∧ Int.tmod d 1000 ≤ 1000 := by
  have h1 := Int.tmod_lt_of_pos d (show (0 : Int) < 1000 by decide)
  have h2 := Int.tmod_lt_of_pos (-d) (show (0 : Int) < 1000 by decide)
  rw [Int.neg_tmod] at h2
  omega
/-- What an item at a place is worth, against the first of the least ones. -/
theorem least_at {y : Int} (h : FirstLeast W y) : ∃ (kl : Nat) (m : Int), (y, m) ∈ W ∧ (W.map Prod.fst)[kl]? = some y ∧ ∀ (p : Nat) (u : Int × Int), W[p]? = some u → m ≤ u.2 ∧ (u.2 = m → kl ≤ p) := by
  obtain ⟨L, m, R, e, h1, h2⟩ := h
  subst e
  refine ⟨L.length, m, by simp, ?_, fun p u hu => ?_⟩
  · rw [List.getElem?_map, List.getElem?_append_right (Nat.le_refl _), Nat.sub_self]
    rfl
  · by_cases c : p < L.length
    · rw [List.getElem?_append_left c] at hu
      have := h1 u (List.mem_of_getElem? hu)
      exact ⟨by omega, fun e => by omega⟩
    · rw [List.getElem?_append_right (by omega)] at hu
      cases hp : p - L.length with
      | zero =>
        rw [hp] at hu
        have hu := Option.some.inj hu
        subst hu
        exact ⟨Int.le_refl _, fun _ => by omega⟩
      | succ q =>
        rw [hp, List.getElem?_cons_succ] at hu
        exact ⟨h2 u (List.mem_of_getElem? hu), fun _ => by omega⟩
theorem rowTo_pair {vs : List Int} {n : Nat} {q : Int × Int} (h : q ∈ rowTo vs n) : ∃ j : Nat, j < n ∧ q = item vs j := by
  obtain ⟨j, hj, e⟩ := List.mem_map.1 h
  exact ⟨j, List.mem_range.1 hj, e.symm⟩
/-- What an item at a place of the row is worth, and where the least one stands. -/
theorem back_facts {vs : List Int} {U : List (Int × Int)} {n p : Nat} {s2 yl : Int} (hU : U.Perm (rowTo vs n)) (hF : Fm w0 w gs gn N cap [shiftW s2 U]) (hl : U.length = n) (hy : FirstLeast (shiftW s2 U) yl) (hp : p < n) :
    ∃ (q0 : Nat) (u vq : Int) (kl : Nat) (mv : Int), U[p]? = some ((q0 : Int), u) ∧ True ∧ q0 < n ∧ ((q0 : Int), vq) ∈ shiftW s2 U ∧ (yl, mv) ∈ shiftW s2 U ∧ ((shiftW s2 U).map Prod.fst)[kl]? = some yl ∧ mv ≤ vq ∧ (vq = mv → kl ≤ p) ∧ (U.map Prod.fst)[p]? = some (q0 : Int) ∧ (s2 = 0 → vq = vs.getD q0 0) := by
  have h1 : U[p]? = some (U[p]'(by omega)) := List.getElem?_eq_getElem (by omega)
  obtain ⟨j, hj, e⟩ := rowTo_pair (hU.mem_iff.1 (List.getElem_mem (l := U) (n := p) (by omega)))
  rw [e] at h1
  obtain ⟨kl, mv, k1, k2, k3⟩ := least_at hy
  have h2 : (shiftW s2 U)[p]? = some ((j : Int), vs.getD j 0 + s2) := by
    unfold shiftW
    rw [List.getElem?_map, h1]
    rfl
  obtain ⟨m1, m2⟩ := k3 p _ h2
  refine ⟨j, vs.getD j 0, vs.getD j 0 + s2, kl, mv, h1, trivial, hj, List.mem_of_getElem? h2, k1, k2, m1, m2, ?_, fun e => by rw [e, Int.add_zero]⟩
  rw [List.getElem?_map, h1]
  rfl
end
end Go.Proofs.YtcnmbgijehnchaaW.Splay
