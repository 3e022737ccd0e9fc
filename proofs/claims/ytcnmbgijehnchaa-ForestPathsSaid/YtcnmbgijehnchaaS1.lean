/- A forest behind a pointer: its two blocks, told by a ghost of owners (written by hand). -/
import Derived.Test.YtcnmbgijehnchaaS0
set_option linter.unusedVariables false
namespace Go.Proofs.YtcnmbgijehnchaaW.Splay
open Go.RowKit Go.Proofs.YtcnmbgijehnchaaW.PrintWords Go.Proofs.YtcnmbgijehnchaaW.PrintMore Go.Proofs.YtcnmbgijehnchaaW.Mine
/-- A node's cells. -/
structure Nc (cs : Array Value) (i : Nat) (n : Nd) : Prop where
  c0 : cs[i * 9]? = some (.int .i64 (n.up))
  c1 : cs[i * 9 + 1]? = some (.int .i64 (n.d0))
  c2 : cs[i * 9 + 2]? = some (.int .i64 (n.d1))
  c3 : cs[i * 9 + 3]? = some (.int .i64 (n.size))
  c4 : cs[i * 9 + 4]? = some (.int .i64 (n.v))
  c5 : cs[i * 9 + 5]? = some (.int .i64 (n.ls))
  c6 : cs[i * 9 + 6]? = some (.int .i64 (n.ms))
  c7 : cs[i * 9 + 7]? = some (.int .i64 (n.a))
  c8 : cs[i * 9 + 8]? = some (.bool (n.tn))
/-- A forest: the struct, and its nodes. -/
structure Sp (tF tN : Nat) (own : Nat → Nat) (w0 W : World) (gs gn N cap : Nat) (s : Fo) : Prop where
  below : Below w0.heap.size w0 W
  box : ∃ st : Int, Bx own 21 tF W w0.heap.size gs #[.slice (some ⟨gn, 0, none⟩) N cap, .int .i64 st]
  nodes : ∃ cs, Bx own 22 tN W w0.heap.size gn cs ∧ ∀ i : Nat, i < N → Nc cs i (s (i : Int))
/-- What a forest's own functions may turn. -/
def SpT (t : Nat) : Prop := t = 21 ∨ t = 22
section
variable {tF tN : Nat} {own own' : Nat → Nat} {T : Nat → Prop} {w0 W W1 : World} {gs gn N cap : Nat} {s : Fo}
theorem Sp.stay (h : Sp tF tN own w0 W gs gn N cap s) (st : Stay own own' T W W1) (hb : Below w0.heap.size w0 W1) (h1 : ¬ T 21) (h2 : ¬ T 22) : Sp tF tN own' w0 W1 gs gn N cap s := by
  obtain ⟨x, hx⟩ := h.box
  obtain ⟨cs, hc, hn⟩ := h.nodes
  exact ⟨hb, ⟨x, hx.stay st h1⟩, ⟨cs, hc.stay st h2, hn⟩⟩
theorem Sp.move (h : Sp tF tN own w0 W gs gn N cap s) (hb : Below W.heap.size W W1) : Sp tF tN own w0 W1 gs gn N cap s := h.stay (T := fun _ => False) (Stay.below hb) (below_step h.below hb) id id
theorem Sp.sl (h : Sp tF tN own w0 W gs gn N cap s) : W.cell? ⟨gs, 0, none⟩ = some (.slice (some ⟨gn, 0, none⟩) N cap) := by
  obtain ⟨x, hx⟩ := h.box
  exact (blk_cell hx.2.2 0).trans rfl
theorem Sp.steps (h : Sp tF tN own w0 W gs gn N cap s) : ∃ st : Int, W.cell? ⟨gs, 1, none⟩ = some (.int .i64 st) ∧ W.frozen? ⟨gs, 1, none⟩ = false := by
  obtain ⟨x, hx⟩ := h.box
  exact ⟨x, (blk_cell hx.2.2 1).trans rfl, blk_frozen hx.2.2 1⟩
theorem Sp.fz (h : Sp tF tN own w0 W gs gn N cap s) (j : Nat) : W.frozen? ⟨gn, j, none⟩ = false := by
  obtain ⟨cs, hc, hn⟩ := h.nodes
  exact blk_frozen hc.2.2 j
theorem Sp.g0 (h : Sp tF tN own w0 W gs gn N cap s) {i : Nat} (hi : i < N) : W.cell? ⟨gn, i * 9, none⟩ = some (.int .i64 ((s (i : Int)).up)) := by
  obtain ⟨cs, hc, hn⟩ := h.nodes
  exact (blk_cell hc.2.2 _).trans (hn i hi).c0
theorem Sp.g1 (h : Sp tF tN own w0 W gs gn N cap s) {i : Nat} (hi : i < N) : W.cell? ⟨gn, i * 9 + 1, none⟩ = some (.int .i64 ((s (i : Int)).d0)) := by
  obtain ⟨cs, hc, hn⟩ := h.nodes
  exact (blk_cell hc.2.2 _).trans (hn i hi).c1
theorem Sp.g2 (h : Sp tF tN own w0 W gs gn N cap s) {i : Nat} (hi : i < N) : W.cell? ⟨gn, i * 9 + 2, none⟩ = some (.int .i64 ((s (i : Int)).d1)) := by
  obtain ⟨cs, hc, hn⟩ := h.nodes
  exact (blk_cell hc.2.2 _).trans (hn i hi).c2
theorem Sp.g3 (h : Sp tF tN own w0 W gs gn N cap s) {i : Nat} (hi : i < N) : W.cell? ⟨gn, i * 9 + 3, none⟩ = some (.int .i64 ((s (i : Int)).size)) := by
  obtain ⟨cs, hc, hn⟩ := h.nodes
  exact (blk_cell hc.2.2 _).trans (hn i hi).c3
theorem Sp.g4 (h : Sp tF tN own w0 W gs gn N cap s) {i : Nat} (hi : i < N) : W.cell? ⟨gn, i * 9 + 4, none⟩ = some (.int .i64 ((s (i : Int)).v)) := by
  obtain ⟨cs, hc, hn⟩ := h.nodes
  exact (blk_cell hc.2.2 _).trans (hn i hi).c4
theorem Sp.g5 (h : Sp tF tN own w0 W gs gn N cap s) {i : Nat} (hi : i < N) : W.cell? ⟨gn, i * 9 + 5, none⟩ = some (.int .i64 ((s (i : Int)).ls)) := by
  obtain ⟨cs, hc, hn⟩ := h.nodes
  exact (blk_cell hc.2.2 _).trans (hn i hi).c5
theorem Sp.g6 (h : Sp tF tN own w0 W gs gn N cap s) {i : Nat} (hi : i < N) : W.cell? ⟨gn, i * 9 + 6, none⟩ = some (.int .i64 ((s (i : Int)).ms)) := by
  obtain ⟨cs, hc, hn⟩ := h.nodes
  exact (blk_cell hc.2.2 _).trans (hn i hi).c6
theorem Sp.g7 (h : Sp tF tN own w0 W gs gn N cap s) {i : Nat} (hi : i < N) : W.cell? ⟨gn, i * 9 + 7, none⟩ = some (.int .i64 ((s (i : Int)).a)) := by
  obtain ⟨cs, hc, hn⟩ := h.nodes
  exact (blk_cell hc.2.2 _).trans (hn i hi).c7
theorem Sp.g8 (h : Sp tF tN own w0 W gs gn N cap s) {i : Nat} (hi : i < N) : W.cell? ⟨gn, i * 9 + 8, none⟩ = some (.bool ((s (i : Int)).tn)) := by
  obtain ⟨cs, hc, hn⟩ := h.nodes
  exact (blk_cell hc.2.2 _).trans (hn i hi).c8
theorem set_at {cs : Array Value} {a : Nat} {z u : Value} (h : cs[a]? = some z) : (cs.setIfInBounds a u)[a]? = some u := by
  have := (Array.getElem?_eq_some_iff.1 h).1
  simp [this]
theorem set_ne {cs : Array Value} {a b : Nat} {u : Value} (h : a ≠ b) : (cs.setIfInBounds a u)[b]? = cs[b]? := by
  simp [h]
theorem Sp.st (h : Sp tF tN own w0 W gs gn N cap s) (y : Int) : Sp tF tN own w0 (W.setCell ⟨gs, 1, none⟩ (.int .i64 y)) gs gn N cap s ∧ Stay own own SpT W (W.setCell ⟨gs, 1, none⟩ (.int .i64 y)) := by
  obtain ⟨x, hx⟩ := h.box
  obtain ⟨cs, hc, hn⟩ := h.nodes
  have s2 : Stay own own (fun t => t = 21) W (W.setCell ⟨gs, 1, none⟩ (.int .i64 y)) := Stay.set hx.1
  exact ⟨⟨below_set h.below hx.2.1, ⟨y, hx.1, hx.2.1, blk_put hx.2.2 1 _ rfl⟩, ⟨cs, hc.stay s2 (by decide), hn⟩⟩, ⟨fun j hj hT => s2.heap j hj (fun e => hT (.inl e)), s2.own⟩⟩
theorem Sp.p0 (h : Sp tF tN own w0 W gs gn N cap s) {i : Nat} (hi : i < N) (y : Int) : Sp tF tN own w0 (W.setCell ⟨gn, i * 9, none⟩ (.int .i64 (y))) gs gn N cap (upd s (i : Int) { s (i : Int) with up := y }) ∧ Stay own own SpT W (W.setCell ⟨gn, i * 9, none⟩ (.int .i64 (y))) := by
  obtain ⟨x, hx⟩ := h.box
  obtain ⟨cs, hc, hn⟩ := h.nodes
  have s2 : Stay own own (fun t => t = 22) W (W.setCell ⟨gn, i * 9, none⟩ (.int .i64 (y))) := Stay.set hc.1
  refine ⟨⟨below_set h.below hc.2.1, ⟨x, hx.stay s2 (by decide)⟩, ⟨_, ⟨hc.1, hc.2.1, blk_set hc.2.2 _ _⟩, fun j hj => ?_⟩⟩, ⟨fun j hj hT => s2.heap j hj (fun e => hT (.inr e)), s2.own⟩⟩
  have hj' := hn j hj
  by_cases e : j = i
  · subst e
    rw [upd_same]
    exact ⟨set_at hj'.c0, (set_ne (by omega)).trans hj'.c1, (set_ne (by omega)).trans hj'.c2, (set_ne (by omega)).trans hj'.c3, (set_ne (by omega)).trans hj'.c4, (set_ne (by omega)).trans hj'.c5, (set_ne (by omega)).trans hj'.c6, (set_ne (by omega)).trans hj'.c7, (set_ne (by omega)).trans hj'.c8⟩
  · rw [upd_ne (by omega)]
    exact ⟨(set_ne (by omega)).trans hj'.c0, (set_ne (by omega)).trans hj'.c1, (set_ne (by omega)).trans hj'.c2, (set_ne (by omega)).trans hj'.c3, (set_ne (by omega)).trans hj'.c4, (set_ne (by omega)).trans hj'.c5, (set_ne (by omega)).trans hj'.c6, (set_ne (by omega)).trans hj'.c7, (set_ne (by omega)).trans hj'.c8⟩
theorem Sp.p1 (h : Sp tF tN own w0 W gs gn N cap s) {i : Nat} (hi : i < N) (y : Int) : Sp tF tN own w0 (W.setCell ⟨gn, i * 9 + 1, none⟩ (.int .i64 (y))) gs gn N cap (upd s (i : Int) { s (i : Int) with d0 := y }) ∧ Stay own own SpT W (W.setCell ⟨gn, i * 9 + 1, none⟩ (.int .i64 (y))) := by
  obtain ⟨x, hx⟩ := h.box
  obtain ⟨cs, hc, hn⟩ := h.nodes
  have s2 : Stay own own (fun t => t = 22) W (W.setCell ⟨gn, i * 9 + 1, none⟩ (.int .i64 (y))) := Stay.set hc.1
  refine ⟨⟨below_set h.below hc.2.1, ⟨x, hx.stay s2 (by decide)⟩, ⟨_, ⟨hc.1, hc.2.1, blk_set hc.2.2 _ _⟩, fun j hj => ?_⟩⟩, ⟨fun j hj hT => s2.heap j hj (fun e => hT (.inr e)), s2.own⟩⟩
  have hj' := hn j hj
  by_cases e : j = i
  · subst e
    rw [upd_same]
    exact ⟨(set_ne (by omega)).trans hj'.c0, set_at hj'.c1, (set_ne (by omega)).trans hj'.c2, (set_ne (by omega)).trans hj'.c3, (set_ne (by omega)).trans hj'.c4, (set_ne (by omega)).trans hj'.c5, (set_ne (by omega)).trans hj'.c6, (set_ne (by omega)).trans hj'.c7, (set_ne (by omega)).trans hj'.c8⟩
  · rw [upd_ne (by omega)]
    exact ⟨(set_ne (by omega)).trans hj'.c0, (set_ne (by omega)).trans hj'.c1, (set_ne (by omega)).trans hj'.c2, (set_ne (by omega)).trans hj'.c3, (set_ne (by omega)).trans hj'.c4, (set_ne (by omega)).trans hj'.c5, (set_ne (by omega)).trans hj'.c6, (set_ne (by omega)).trans hj'.c7, (set_ne (by omega)).trans hj'.c8⟩
theorem Sp.p2 (h : Sp tF tN own w0 W gs gn N cap s) {i : Nat} (hi : i < N) (y : Int) : Sp tF tN own w0 (W.setCell ⟨gn, i * 9 + 2, none⟩ (.int .i64 (y))) gs gn N cap (upd s (i : Int) { s (i : Int) with d1 := y }) ∧ Stay own own SpT W (W.setCell ⟨gn, i * 9 + 2, none⟩ (.int .i64 (y))) := by
  obtain ⟨x, hx⟩ := h.box
  obtain ⟨cs, hc, hn⟩ := h.nodes
  have s2 : Stay own own (fun t => t = 22) W (W.setCell ⟨gn, i * 9 + 2, none⟩ (.int .i64 (y))) := Stay.set hc.1
  refine ⟨⟨below_set h.below hc.2.1, ⟨x, hx.stay s2 (by decide)⟩, ⟨_, ⟨hc.1, hc.2.1, blk_set hc.2.2 _ _⟩, fun j hj => ?_⟩⟩, ⟨fun j hj hT => s2.heap j hj (fun e => hT (.inr e)), s2.own⟩⟩
  have hj' := hn j hj
  by_cases e : j = i
  · subst e
    rw [upd_same]
    exact ⟨(set_ne (by omega)).trans hj'.c0, (set_ne (by omega)).trans hj'.c1, set_at hj'.c2, (set_ne (by omega)).trans hj'.c3, (set_ne (by omega)).trans hj'.c4, (set_ne (by omega)).trans hj'.c5, (set_ne (by omega)).trans hj'.c6, (set_ne (by omega)).trans hj'.c7, (set_ne (by omega)).trans hj'.c8⟩
  · rw [upd_ne (by omega)]
    exact ⟨(set_ne (by omega)).trans hj'.c0, (set_ne (by omega)).trans hj'.c1, (set_ne (by omega)).trans hj'.c2, (set_ne (by omega)).trans hj'.c3, (set_ne (by omega)).trans hj'.c4, (set_ne (by omega)).trans hj'.c5, (set_ne (by omega)).trans hj'.c6, (set_ne (by omega)).trans hj'.c7, (set_ne (by omega)).trans hj'.c8⟩
theorem Sp.p3 (h : Sp tF tN own w0 W gs gn N cap s) {i : Nat} (hi : i < N) (y : Int) : Sp tF tN own w0 (W.setCell ⟨gn, i * 9 + 3, none⟩ (.int .i64 (y))) gs gn N cap (upd s (i : Int) { s (i : Int) with size := y }) ∧ Stay own own SpT W (W.setCell ⟨gn, i * 9 + 3, none⟩ (.int .i64 (y))) := by
  obtain ⟨x, hx⟩ := h.box
  obtain ⟨cs, hc, hn⟩ := h.nodes
  have s2 : Stay own own (fun t => t = 22) W (W.setCell ⟨gn, i * 9 + 3, none⟩ (.int .i64 (y))) := Stay.set hc.1
  refine ⟨⟨below_set h.below hc.2.1, ⟨x, hx.stay s2 (by decide)⟩, ⟨_, ⟨hc.1, hc.2.1, blk_set hc.2.2 _ _⟩, fun j hj => ?_⟩⟩, ⟨fun j hj hT => s2.heap j hj (fun e => hT (.inr e)), s2.own⟩⟩
  have hj' := hn j hj
  by_cases e : j = i
  · subst e
    rw [upd_same]
    exact ⟨(set_ne (by omega)).trans hj'.c0, (set_ne (by omega)).trans hj'.c1, (set_ne (by omega)).trans hj'.c2, set_at hj'.c3, (set_ne (by omega)).trans hj'.c4, (set_ne (by omega)).trans hj'.c5, (set_ne (by omega)).trans hj'.c6, (set_ne (by omega)).trans hj'.c7, (set_ne (by omega)).trans hj'.c8⟩
  · rw [upd_ne (by omega)]
    exact ⟨(set_ne (by omega)).trans hj'.c0, (set_ne (by omega)).trans hj'.c1, (set_ne (by omega)).trans hj'.c2, (set_ne (by omega)).trans hj'.c3, (set_ne (by omega)).trans hj'.c4, (set_ne (by omega)).trans hj'.c5, (set_ne (by omega)).trans hj'.c6, (set_ne (by omega)).trans hj'.c7, (set_ne (by omega)).trans hj'.c8⟩
theorem Sp.p4 (h : Sp tF tN own w0 W gs gn N cap s) {i : Nat} (hi : i < N) (y : Int) : Sp tF tN own w0 (W.setCell ⟨gn, i * 9 + 4, none⟩ (.int .i64 (y))) gs gn N cap (upd s (i : Int) { s (i : Int) with v := y }) ∧ Stay own own SpT W (W.setCell ⟨gn, i * 9 + 4, none⟩ (.int .i64 (y))) := by
  obtain ⟨x, hx⟩ := h.box
  obtain ⟨cs, hc, hn⟩ := h.nodes
  have s2 : Stay own own (fun t => t = 22) W (W.setCell ⟨gn, i * 9 + 4, none⟩ (.int .i64 (y))) := Stay.set hc.1
  refine ⟨⟨below_set h.below hc.2.1, ⟨x, hx.stay s2 (by decide)⟩, ⟨_, ⟨hc.1, hc.2.1, blk_set hc.2.2 _ _⟩, fun j hj => ?_⟩⟩, ⟨fun j hj hT => s2.heap j hj (fun e => hT (.inr e)), s2.own⟩⟩
  have hj' := hn j hj
  by_cases e : j = i
  · subst e
    rw [upd_same]
    exact ⟨(set_ne (by omega)).trans hj'.c0, (set_ne (by omega)).trans hj'.c1, (set_ne (by omega)).trans hj'.c2, (set_ne (by omega)).trans hj'.c3, set_at hj'.c4, (set_ne (by omega)).trans hj'.c5, (set_ne (by omega)).trans hj'.c6, (set_ne (by omega)).trans hj'.c7, (set_ne (by omega)).trans hj'.c8⟩
  · rw [upd_ne (by omega)]
    exact ⟨(set_ne (by omega)).trans hj'.c0, (set_ne (by omega)).trans hj'.c1, (set_ne (by omega)).trans hj'.c2, (set_ne (by omega)).trans hj'.c3, (set_ne (by omega)).trans hj'.c4, (set_ne (by omega)).trans hj'.c5, (set_ne (by omega)).trans hj'.c6, (set_ne (by omega)).trans hj'.c7, (set_ne (by omega)).trans hj'.c8⟩
theorem Sp.p5 (h : Sp tF tN own w0 W gs gn N cap s) {i : Nat} (hi : i < N) (y : Int) : Sp tF tN own w0 (W.setCell ⟨gn, i * 9 + 5, none⟩ (.int .i64 (y))) gs gn N cap (upd s (i : Int) { s (i : Int) with ls := y }) ∧ Stay own own SpT W (W.setCell ⟨gn, i * 9 + 5, none⟩ (.int .i64 (y))) := by
  obtain ⟨x, hx⟩ := h.box
  obtain ⟨cs, hc, hn⟩ := h.nodes
  have s2 : Stay own own (fun t => t = 22) W (W.setCell ⟨gn, i * 9 + 5, none⟩ (.int .i64 (y))) := Stay.set hc.1
  refine ⟨⟨below_set h.below hc.2.1, ⟨x, hx.stay s2 (by decide)⟩, ⟨_, ⟨hc.1, hc.2.1, blk_set hc.2.2 _ _⟩, fun j hj => ?_⟩⟩, ⟨fun j hj hT => s2.heap j hj (fun e => hT (.inr e)), s2.own⟩⟩
  have hj' := hn j hj
  by_cases e : j = i
  · subst e
    rw [upd_same]
    exact ⟨(set_ne (by omega)).trans hj'.c0, (set_ne (by omega)).trans hj'.c1, (set_ne (by omega)).trans hj'.c2, (set_ne (by omega)).trans hj'.c3, (set_ne (by omega)).trans hj'.c4, set_at hj'.c5, (set_ne (by omega)).trans hj'.c6, (set_ne (by omega)).trans hj'.c7, (set_ne (by omega)).trans hj'.c8⟩
  · rw [upd_ne (by omega)]
    exact ⟨(set_ne (by omega)).trans hj'.c0, (set_ne (by omega)).trans hj'.c1, (set_ne (by omega)).trans hj'.c2, (set_ne (by omega)).trans hj'.c3, (set_ne (by omega)).trans hj'.c4, (set_ne (by omega)).trans hj'.c5, (set_ne (by omega)).trans hj'.c6, (set_ne (by omega)).trans hj'.c7, (set_ne (by omega)).trans hj'.c8⟩
theorem Sp.p6 (h : Sp tF tN own w0 W gs gn N cap s) {i : Nat} (hi : i < N) (y : Int) : Sp tF tN own w0 (W.setCell ⟨gn, i * 9 + 6, none⟩ (.int .i64 (y))) gs gn N cap (upd s (i : Int) { s (i : Int) with ms := y }) ∧ Stay own own SpT W (W.setCell ⟨gn, i * 9 + 6, none⟩ (.int .i64 (y))) := by
  obtain ⟨x, hx⟩ := h.box
  obtain ⟨cs, hc, hn⟩ := h.nodes
  have s2 : Stay own own (fun t => t = 22) W (W.setCell ⟨gn, i * 9 + 6, none⟩ (.int .i64 (y))) := Stay.set hc.1
  refine ⟨⟨below_set h.below hc.2.1, ⟨x, hx.stay s2 (by decide)⟩, ⟨_, ⟨hc.1, hc.2.1, blk_set hc.2.2 _ _⟩, fun j hj => ?_⟩⟩, ⟨fun j hj hT => s2.heap j hj (fun e => hT (.inr e)), s2.own⟩⟩
  have hj' := hn j hj
  by_cases e : j = i
  · subst e
    rw [upd_same]
    exact ⟨(set_ne (by omega)).trans hj'.c0, (set_ne (by omega)).trans hj'.c1, (set_ne (by omega)).trans hj'.c2, (set_ne (by omega)).trans hj'.c3, (set_ne (by omega)).trans hj'.c4, (set_ne (by omega)).trans hj'.c5, set_at hj'.c6, (set_ne (by omega)).trans hj'.c7, (set_ne (by omega)).trans hj'.c8⟩
  · rw [upd_ne (by omega)]
    exact ⟨(set_ne (by omega)).trans hj'.c0, (set_ne (by omega)).trans hj'.c1, (set_ne (by omega)).trans hj'.c2, (set_ne (by omega)).trans hj'.c3, (set_ne (by omega)).trans hj'.c4, (set_ne (by omega)).trans hj'.c5, (set_ne (by omega)).trans hj'.c6, (set_ne (by omega)).trans hj'.c7, (set_ne (by omega)).trans hj'.c8⟩
theorem Sp.p7 (h : Sp tF tN own w0 W gs gn N cap s) {i : Nat} (hi : i < N) (y : Int) : Sp tF tN own w0 (W.setCell ⟨gn, i * 9 + 7, none⟩ (.int .i64 (y))) gs gn N cap (upd s (i : Int) { s (i : Int) with a := y }) ∧ Stay own own SpT W (W.setCell ⟨gn, i * 9 + 7, none⟩ (.int .i64 (y))) := by
  obtain ⟨x, hx⟩ := h.box
  obtain ⟨cs, hc, hn⟩ := h.nodes
  have s2 : Stay own own (fun t => t = 22) W (W.setCell ⟨gn, i * 9 + 7, none⟩ (.int .i64 (y))) := Stay.set hc.1
  refine ⟨⟨below_set h.below hc.2.1, ⟨x, hx.stay s2 (by decide)⟩, ⟨_, ⟨hc.1, hc.2.1, blk_set hc.2.2 _ _⟩, fun j hj => ?_⟩⟩, ⟨fun j hj hT => s2.heap j hj (fun e => hT (.inr e)), s2.own⟩⟩
  have hj' := hn j hj
  by_cases e : j = i
  · subst e
    rw [upd_same]
    exact ⟨(set_ne (by omega)).trans hj'.c0, (set_ne (by omega)).trans hj'.c1, (set_ne (by omega)).trans hj'.c2, (set_ne (by omega)).trans hj'.c3, (set_ne (by omega)).trans hj'.c4, (set_ne (by omega)).trans hj'.c5, (set_ne (by omega)).trans hj'.c6, set_at hj'.c7, (set_ne (by omega)).trans hj'.c8⟩
  · rw [upd_ne (by omega)]
    exact ⟨(set_ne (by omega)).trans hj'.c0, (set_ne (by omega)).trans hj'.c1, (set_ne (by omega)).trans hj'.c2, (set_ne (by omega)).trans hj'.c3, (set_ne (by omega)).trans hj'.c4, (set_ne (by omega)).trans hj'.c5, (set_ne (by omega)).trans hj'.c6, (set_ne (by omega)).trans hj'.c7, (set_ne (by omega)).trans hj'.c8⟩
theorem Sp.p8 (h : Sp tF tN own w0 W gs gn N cap s) {i : Nat} (hi : i < N) (y : Bool) : Sp tF tN own w0 (W.setCell ⟨gn, i * 9 + 8, none⟩ (.bool (y))) gs gn N cap (upd s (i : Int) { s (i : Int) with tn := y }) ∧ Stay own own SpT W (W.setCell ⟨gn, i * 9 + 8, none⟩ (.bool (y))) := by
  obtain ⟨x, hx⟩ := h.box
  obtain ⟨cs, hc, hn⟩ := h.nodes
  have s2 : Stay own own (fun t => t = 22) W (W.setCell ⟨gn, i * 9 + 8, none⟩ (.bool (y))) := Stay.set hc.1
  refine ⟨⟨below_set h.below hc.2.1, ⟨x, hx.stay s2 (by decide)⟩, ⟨_, ⟨hc.1, hc.2.1, blk_set hc.2.2 _ _⟩, fun j hj => ?_⟩⟩, ⟨fun j hj hT => s2.heap j hj (fun e => hT (.inr e)), s2.own⟩⟩
  have hj' := hn j hj
  by_cases e : j = i
  · subst e
    rw [upd_same]
    exact ⟨(set_ne (by omega)).trans hj'.c0, (set_ne (by omega)).trans hj'.c1, (set_ne (by omega)).trans hj'.c2, (set_ne (by omega)).trans hj'.c3, (set_ne (by omega)).trans hj'.c4, (set_ne (by omega)).trans hj'.c5, (set_ne (by omega)).trans hj'.c6, (set_ne (by omega)).trans hj'.c7, set_at hj'.c8⟩
  · rw [upd_ne (by omega)]
    exact ⟨(set_ne (by omega)).trans hj'.c0, (set_ne (by omega)).trans hj'.c1, (set_ne (by omega)).trans hj'.c2, (set_ne (by omega)).trans hj'.c3, (set_ne (by omega)).trans hj'.c4, (set_ne (by omega)).trans hj'.c5, (set_ne (by omega)).trans hj'.c6, (set_ne (by omega)).trans hj'.c7, (set_ne (by omega)).trans hj'.c8⟩
theorem Sp.drew (h : Sp tF tN own w0 W gs gn N cap s) : Sp tF tN own w0 W.drew gs gn N cap s := h.move (below_drew (Below.refl _ _))
theorem Sp.drewN (h : Sp tF tN own w0 W gs gn N cap s) (m : Nat) : Sp tF tN own w0 (W.drewN m) gs gn N cap s := h.move (by apply pw_below_drewN; exact Below.refl _ _)
theorem stay_drewN (h : Stay own own' T W W1) (m : Nat) : Stay own own' T W (W1.drewN m) := ⟨h.heap, h.own⟩
theorem stay_drew (h : Stay own own' T W W1) : Stay own own' T W W1.drew := ⟨h.heap, h.own⟩
theorem upd_upd (s : Fo) (x : Int) (n m : Nd) : upd (upd s x n) x m = upd s x m := by
  funext y
  unfold upd
  split <;> rfl
/-- One store behind others. -/
theorem Sp.then_ {W2 : World} {s1 s2 : Fo} (h : Sp tF tN own w0 W1 gs gn N cap s1 ∧ Stay own own SpT W W1) (hs : W.heap.size ≤ W1.heap.size) (k : Sp tF tN own w0 W2 gs gn N cap s2 ∧ Stay own own SpT W1 W2) : Sp tF tN own w0 W2 gs gn N cap s2 ∧ Stay own own SpT W W2 := ⟨k.1, h.2.trans hs k.2⟩
theorem sz (p : Addr) (u : Value) : (W.setCell p u).heap.size = W.heap.size := by simp
end
end Go.Proofs.YtcnmbgijehnchaaW.Splay
