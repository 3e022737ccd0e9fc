/- Acts, of raw numbers, that are read. -/
import Derived.Test.YtcnmbgijehnchaaS23
set_option linter.unusedVariables false
set_option linter.unusedSimpArgs false
namespace Go.Proofs.YtcnmbgijehnchaaW.Splay
open Go.RowKit Go.Shelf Go.Proofs.YtcnmbgijehnchaaW.PrintWords Go.Proofs.YtcnmbgijehnchaaW.PrintLast Go.Proofs.YtcnmbgijehnchaaW.PrintMore Go.Proofs.YtcnmbgijehnchaaW.Mine
/-- An act: what is done, the two items, the amount. -/
structure Ac where
  op : Int
  x : Int
  y : Int
  d : Int
/-- Each of its numbers fits. -/
def Ac.wf (c : Ac) : Prop := (Lit.int .i64 c.op).wf = true ∧ (Lit.int .i64 c.x).wf = true ∧ (Lit.int .i64 c.y).wf = true ∧ (Lit.int .i64 c.d).wf = true
def RdA (W : World) (A : Option Addr) (l : List Ac) : Prop := (∀ c ∈ l, c.wf) ∧ (l = [] ∨ ∃ a, A = some a ∧ ∀ j c, l[j]? = some c →
  W.cell? (a.add (j * 4)) = some (.int .i64 c.op) ∧ W.cell? ⟨(a.add (j * 4)).block, (a.add (j * 4)).off + 1, none⟩ = some (.int .i64 c.x) ∧ W.cell? ⟨(a.add (j * 4)).block, (a.add (j * 4)).off + 2, none⟩ = some (.int .i64 c.y) ∧ W.cell? ⟨(a.add (j * 4)).block, (a.add (j * 4)).off + 3, none⟩ = some (.int .i64 c.d))
theorem RdA.at {W W1 : World} {A : Option Addr} {l : List Ac} (h : RdA W A l) (hb : Below W.heap.size W W1) {j : Nat} (hj : j < l.length) : ∃ a c, A = some a ∧ l[j]? = some c ∧ c.wf ∧ W1.cell? (a.add (j * 4)) = some (.int .i64 c.op) ∧ W1.cell? ⟨(a.add (j * 4)).block, (a.add (j * 4)).off + 1, none⟩ = some (.int .i64 c.x) ∧ W1.cell? ⟨(a.add (j * 4)).block, (a.add (j * 4)).off + 2, none⟩ = some (.int .i64 c.y) := by
  obtain ⟨hw, e | ⟨a, e, h⟩⟩ := h
  · subst e; simp at hj
  · have e1 : l[j]? = some l[j] := List.getElem?_eq_getElem hj
    obtain ⟨h0, h1, h2, h3⟩ := h j l[j] e1
    exact ⟨a, l[j], e, e1, hw _ (List.getElem_mem hj), pw_cell_below hb h0, pw_cell_below hb h1, pw_cell_below hb h2⟩
end Go.Proofs.YtcnmbgijehnchaaW.Splay
