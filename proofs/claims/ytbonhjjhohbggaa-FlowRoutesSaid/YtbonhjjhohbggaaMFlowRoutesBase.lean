/- Plain lists and numbers, for the law FlowRoutes: no program and no memory. -/
import Derived.Test.YtbonhjjhohbggaaPFlowRoutesx0
import Derived.Test.YtbonhjjhohbggaaPFlowRoutesx3
set_option linter.unusedVariables false
namespace Go.Proofs.Ytbonhjjhohbggaa.Pure
open Go.RowKit Go.Proofs.Ytbonhjjhohbggaa.PFlowRoutes Go.Proofs.YtbonhjjhohbggaaW.PrintWords Go.Proofs.YtbonhjjhohbggaaW.PrintLast
theorem wrap_id {x : Int} (h0 : -9223372036854775808 ≤ x) (h1 : x ≤ 9223372036854775807) : wrap64 x = x := by unfold wrap64; omega
/-- An arc between nodes 1 to n, of no capacity below 0. -/
def GoodArc (n : Int) (a : S38) : Prop := 1 ≤ a.f0 ∧ a.f0 ≤ n ∧ 1 ≤ a.f1 ∧ a.f1 ≤ n ∧ 0 ≤ a.f2
def sumCap : List S38 → Int
  | [] => 0
  | a :: t => a.f2 + sumCap t
theorem sumCap_app (l m : List S38) : sumCap (l ++ m) = sumCap l + sumCap m := by
  induction l with
  | nil => simp [sumCap]
  | cons a t ih => simp only [List.cons_append, sumCap, ih]; omega
theorem sumCap_nonneg {n : Int} {l : List S38} (h : ∀ a ∈ l, GoodArc n a) : 0 ≤ sumCap l := by
  induction l with
  | nil => exact Int.le_refl 0
  | cons a t ih =>
    have h1 := ih (fun x hx => h x (List.mem_cons_of_mem _ hx))
    have h2 := (h a List.mem_cons_self).2.2.2.2
    simp only [sumCap]; omega
theorem chk_app {n : Int} : ∀ {l m : List S38} {s : Int}, (∀ a ∈ l, GoodArc n a) → 0 ≤ s → s + sumCap l ≤ 4611686018427387903 → chkArcs n (l ++ m) s = chkArcs n m (s + sumCap l)
  | [], m, s, _, _, _ => by simp [sumCap]
  | a :: t, m, s, h, hs, hM => by
    obtain ⟨g0, g1, g2, g3, g4⟩ := h a List.mem_cons_self
    have ht : ∀ x ∈ t, GoodArc n x := fun x hx => h x (List.mem_cons_of_mem _ hx)
    have hn := sumCap_nonneg ht
    simp only [sumCap] at hM
    simp only [List.cons_append, chkArcs]
    rw [if_pos ⟨by omega, by omega⟩, if_pos ⟨g0, g1, g2, g3⟩, if_neg (by omega), if_neg (by omega), chk_app ht (by omega) (by omega)]
    simp only [sumCap]
    rw [Int.add_assoc]
theorem chk_ok {n : Int} {l : List S38} {s : Int} (h : ∀ a ∈ l, GoodArc n a) (hs : 0 ≤ s) (hM : s + sumCap l ≤ 4611686018427387903) : chkArcs n l s = some 0 := by
  have := chk_app (m := []) h hs hM
  rw [List.append_nil] at this
  rw [this, chkArcs]
/-- A right network. -/
structure Right (n s t : Int) (l : List S38) : Prop where
  n2 : 2 ≤ n
  n500 : n ≤ 500
  s1 : 1 ≤ s
  sn : s ≤ n
  t1 : 1 ≤ t
  tn : t ≤ n
  ne : s ≠ t
  len : l.length ≤ 2000
  arcs : ∀ a ∈ l, GoodArc n a
  sum : sumCap l ≤ 4611686018427387903
theorem Right.check {n s t : Int} {l : List S38} (h : Right n s t l) : net_Check.f n s t l = some 0 := by
  unfold net_Check.f
  have h1 := h.n2
  have h2 := h.n500
  have h3 := h.s1
  have h4 := h.sn
  have h5 := h.t1
  have h6 := h.tn
  have h8 := h.len
  rw [if_neg (by omega), if_neg (fun hc => hc ⟨h3, h4, h5, h6⟩), if_neg h.ne, if_neg (by omega)]
  exact chk_ok h.arcs (Int.le_refl 0) (by have := h.sum; omega)
end Go.Proofs.Ytbonhjjhohbggaa.Pure
