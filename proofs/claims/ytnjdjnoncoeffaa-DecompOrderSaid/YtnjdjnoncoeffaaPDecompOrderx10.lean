/- For the law DecompOrder, for every input: printed by a program (wip/myprint), contracts by hand where it says MANUAL. -/
-- slim5
-- slim
import Derived.Test.YtnjdjnoncoeffaaPDecompOrderx0
namespace Go.Proofs.Ytnjdjnoncoeffaa.PDecompOrder
open Go.RowKit Go.Proofs.YtnjdjnoncoeffaaW.PrintWords Go.Proofs.YtnjdjnoncoeffaaW.PrintLast Go.Proofs.YtnjdjnoncoeffaaW.PrintMore
attribute [local go_sem] max2_int min2_int max_two min_two max_three min_three max_four min_four
set_option linter.unusedVariables false
set_option linter.unusedSimpArgs false
/-! ### decomp_walker_next_1: function 37 -/
-- MANUAL: this contract was written by hand.
open Go.Proofs.YtnjdjnoncoeffaaW.Mine
/-- The walker: its own block, what is left, the arcs that may be left. -/
structure Dl (tw te tl : Nat) (own : Nat → Nat) (w0 W : World) (gw : Nat) (c0 c1 c2 c3 : Value) (vl : Value) (left : List Int) (value : Int) (gt m : Nat) (ts : List (List Int)) (first : Int) : Prop where
 below : Below w0.heap.size w0 W
 box : Bx own 6 tw W w0.heap.size gw #[c0, c1, c2, c3, vl, .int .i64 value, .slice (some ⟨gt, 0, none⟩) m m, .int .i64 first]
 left : Rw own 8 te W w0.heap.size vl left
 tv : Tv own tl W w0.heap.size gt ts
/-- What a step of the walker may turn. -/
def DlT (t : Nat) : Prop := t = 6 ∨ t = 7 ∨ t = 8
section
variable {tw te tl : Nat} {own own' : Nat → Nat} {T : Nat → Prop} {w0 W W1 : World} {gw : Nat} {c0 c1 c2 c3 : Value} {vl : Value} {left : List Int} {value : Int} {gt m : Nat} {ts : List (List Int)} {first : Int}
theorem Dl.stay (h : Dl tw te tl own w0 W gw c0 c1 c2 c3 vl left value gt m ts first) (s : Stay own own' T W W1) (hb : Below w0.heap.size w0 W1) (h6 : ¬ T 6) (h7 : ¬ T 7) (h8 : ¬ T 8) (h10 : ∀ j, ¬ T (10 + j)) : Dl tw te tl own' w0 W1 gw c0 c1 c2 c3 vl left value gt m ts first :=
 ⟨hb, h.box.stay s h6, h.left.stay s h8, h.tv.stay s h7 h10⟩
theorem Dl.move (h : Dl tw te tl own w0 W gw c0 c1 c2 c3 vl left value gt m ts first) (hb : Below W.heap.size W W1) : Dl tw te tl own w0 W1 gw c0 c1 c2 c3 vl left value gt m ts first :=
 h.stay (T := fun _ => False) (Stay.below hb) (below_step h.below hb) id id id (fun _ => id)
theorem Dl.g0 (h : Dl tw te tl own w0 W gw c0 c1 c2 c3 vl left value gt m ts first) : W.cell? ⟨gw, 0, none⟩ = some c0 := (blk_cell h.box.2.2 0).trans rfl
theorem Dl.g1 (h : Dl tw te tl own w0 W gw c0 c1 c2 c3 vl left value gt m ts first) : W.cell? ⟨gw, 1, none⟩ = some c1 := (blk_cell h.box.2.2 1).trans rfl
theorem Dl.g2 (h : Dl tw te tl own w0 W gw c0 c1 c2 c3 vl left value gt m ts first) : W.cell? ⟨gw, 2, none⟩ = some c2 := (blk_cell h.box.2.2 2).trans rfl
theorem Dl.g3 (h : Dl tw te tl own w0 W gw c0 c1 c2 c3 vl left value gt m ts first) : W.cell? ⟨gw, 3, none⟩ = some c3 := (blk_cell h.box.2.2 3).trans rfl
theorem Dl.g4 (h : Dl tw te tl own w0 W gw c0 c1 c2 c3 vl left value gt m ts first) : W.cell? ⟨gw, 4, none⟩ = some vl := (blk_cell h.box.2.2 4).trans rfl
theorem Dl.g5 (h : Dl tw te tl own w0 W gw c0 c1 c2 c3 vl left value gt m ts first) : W.cell? ⟨gw, 5, none⟩ = some (.int .i64 value) := (blk_cell h.box.2.2 5).trans rfl
theorem Dl.g6 (h : Dl tw te tl own w0 W gw c0 c1 c2 c3 vl left value gt m ts first) : W.cell? ⟨gw, 6, none⟩ = some (.slice (some ⟨gt, 0, none⟩) m m) := (blk_cell h.box.2.2 6).trans rfl
theorem Dl.g7 (h : Dl tw te tl own w0 W gw c0 c1 c2 c3 vl left value gt m ts first) : W.cell? ⟨gw, 7, none⟩ = some (.int .i64 first) := (blk_cell h.box.2.2 7).trans rfl
theorem Dl.f5 (h : Dl tw te tl own w0 W gw c0 c1 c2 c3 vl left value gt m ts first) : W.frozen? ⟨gw, 5, none⟩ = false := blk_frozen h.box.2.2 5
theorem Dl.f7 (h : Dl tw te tl own w0 W gw c0 c1 c2 c3 vl left value gt m ts first) : W.frozen? ⟨gw, 7, none⟩ = false := blk_frozen h.box.2.2 7
theorem dc_weak {T' : Nat → Prop} (h : Stay own own' T W W1) (k : ∀ t, T t → T' t) : Stay own own' T' W W1 := ⟨fun j hj hT => h.heap j hj (fun e => hT (k _ e)), h.own⟩
theorem dc_size (p : Addr) (u : Value) : W.heap.size ≤ (W.setCell p u).heap.size := by simp
/-- The first arc that may be left. -/
theorem Dl.setFirst (h : Dl tw te tl own w0 W gw c0 c1 c2 c3 vl left value gt m ts first) (x : Int) :
  Dl tw te tl own w0 (W.setCell ⟨gw, 7, none⟩ (.int .i64 x)) gw c0 c1 c2 c3 vl left value gt m ts x ∧ Stay own own DlT W (W.setCell ⟨gw, 7, none⟩ (.int .i64 x)) := by
 (have s : Stay own own (fun t => t = 6) W (W.setCell ⟨gw, 7, none⟩ (.int .i64 x)) := Stay.set h.box.1); (exact ⟨⟨below_set h.below h.box.2.1, ⟨h.box.1, h.box.2.1, blk_put h.box.2.2 7 _ rfl⟩, h.left.stay s (by decide), h.tv.stay s (by decide) (fun j => by omega)⟩, dc_weak s (fun t e => .inl e)⟩)
theorem Dl.setValue (h : Dl tw te tl own w0 W gw c0 c1 c2 c3 vl left value gt m ts first) (x : Int) :
  Dl tw te tl own w0 (W.setCell ⟨gw, 5, none⟩ (.int .i64 x)) gw c0 c1 c2 c3 vl left x gt m ts first ∧ Stay own own DlT W (W.setCell ⟨gw, 5, none⟩ (.int .i64 x)) := by
 (have s : Stay own own (fun t => t = 6) W (W.setCell ⟨gw, 5, none⟩ (.int .i64 x)) := Stay.set h.box.1); (exact ⟨⟨below_set h.below h.box.2.1, ⟨h.box.1, h.box.2.1, blk_put h.box.2.2 5 _ rfl⟩, h.left.stay s (by decide), h.tv.stay s (by decide) (fun j => by omega)⟩, dc_weak s (fun t e => .inl e)⟩)
/-- An amount written. -/
theorem Dl.put {gl n c : Nat} (h : Dl tw te tl own w0 W gw c0 c1 c2 c3 (.slice (some ⟨gl, 0, none⟩) n c) left value gt m ts first) (i x : Int) :
  Dl tw te tl own w0 (W.setCell ⟨gl, i.toNat, none⟩ (.int .i64 x)) gw c0 c1 c2 c3 (.slice (some ⟨gl, 0, none⟩) n c) (left.set i.toNat x) value gt m ts first ∧ Stay own own DlT W (W.setCell ⟨gl, i.toNat, none⟩ (.int .i64 x)) := by
 (have s : Stay own own (fun t => t = 8) W (W.setCell ⟨gl, i.toNat, none⟩ (.int .i64 x)) := Stay.set h.left.block); (exact ⟨⟨below_set h.below (Kd.R_base h.left gl rfl), h.box.stay s (by decide), h.left.set i x, h.tv.stay s (by decide) (fun j => by omega)⟩, dc_weak s (fun t e => .inr (.inr e))⟩)
/-- The first arcs of a row are dropped. -/
theorem Dl.pop (h : Dl tw te tl own w0 W gw c0 c1 c2 c3 vl left value gt m ts first) {j k c : Nat} {A : Option Addr} {x : List Int} (hj : ts[j]? = some x) (hk : k ≤ x.length) (hl : x.length ≤ c) (hv : Vw own (10 + j) W A x) :
  Dl tw te tl own w0 (W.setCell ⟨gt, j, none⟩ (.slice (if c = k then A else A.map (·.add k)) (x.length - k) (c - k))) gw c0 c1 c2 c3 vl left value gt m (ts.set j (x.drop k)) first ∧ Stay own own DlT W (W.setCell ⟨gt, j, none⟩ (.slice (if c = k then A else A.map (·.add k)) (x.length - k) (c - k))) := by
 (have hv2 := hv.cut hk hl); (have hp := h.tv.put (c := c - k) hj (by rw [List.length_drop]; omega) hv2); (rw [List.length_drop] at hp); (have s2 : Stay own own (fun t => t = 7) W (W.setCell ⟨gt, j, none⟩ (.slice (if c = k then A else A.map (·.add k)) (x.length - k) (c - k))) := Stay.set h.tv.1); (exact ⟨⟨below_set h.below h.tv.2.1, h.box.stay s2 (by decide), h.left.stay s2 (by decide), hp⟩, dc_weak s2 (fun t e => .inr (.inl e))⟩)
end
set_option maxHeartbeats 8000000 in
set_option maxRecDepth 100000 in
theorem dcHas_calls {own : Nat → Nat} {w0 w : World} {gw gb : Nat} {c0 c1 c2 c3 vl : Value} {left : List Int} {value : Int} {gt m : Nat} {ts : List (List Int)} {first : Int} (r' : Nat) (hr : r' < left.length)
  (hb : w.cell? ⟨gb, 0, none⟩ = some (.pointer (some ⟨gw, 0, none⟩))) (h : Dl 58 2 22 own w0 w gw c0 c1 c2 c3 vl left value gt m ts first) :
  Calls Try.prog 37 #[.int .i64 (r' : Int), .pointer (some ⟨gb, 0, none⟩)] w fun e w' => e = .returned (.bool (decide (0 < rd left (r' : Int)))) ∧ w = w' := by
 (have hu98 := Try.underlying58); (obtain ⟨Ar, cr, er⟩ := Kd.R_slice h.left); subst er; (obtain ⟨g8, hg8, hrr⟩ := h.left.read hr); subst hg8; (have erd : rd left (r' : Int) = left[r'] := by simp [rd, hr]); (rw [erd]); (obtain ⟨y, hy⟩ : ∃ y, left[r'] = y := ⟨_, rfl⟩); (rw [hy]); (rw [hy] at hrr); (have h4 := h.g4); (have hrm2 : (r' : Int) < (left.length : Int) := by omega); (have hr0 : (0 : Int) ≤ (r' : Int) := by omega); (obtain ⟨q, hq⟩ : ∃ q, decide (0 < y) = q := ⟨_, rfl⟩); (have HQ := Aside0.mk hq); (rw [hq]); clear h hr erd hy hq; (go_enter Try.func37, Try.ntmps37); (go_wp2_with fail); (all_goals go_ret); (all_goals exact ⟨by first | rfl | (rw [← HQ.out]; rfl), rfl⟩)
end Go.Proofs.Ytnjdjnoncoeffaa.PDecompOrder
