/- For the law DecompTwice, for every input: printed by a program (wip/myprint), contracts by hand where it says MANUAL. -/
-- slim
import Derived.Test.YtnjdjnoncoeffaaPDecompTwicex0
import Derived.Test.YtnjdjnoncoeffaaPDecompTwicex10
import Derived.Test.YtnjdjnoncoeffaaPDecompTwicex12
import Derived.Test.YtnjdjnoncoeffaaPDecompTwicex13
namespace Go.Proofs.Ytnjdjnoncoeffaa.PDecompTwice
open Go.RowKit Go.Proofs.YtnjdjnoncoeffaaW.PrintWords Go.Proofs.YtnjdjnoncoeffaaW.PrintLast Go.Proofs.YtnjdjnoncoeffaaW.PrintMore
attribute [local go_sem] max2_int min2_int max_two min_two max_three min_three max_four min_four
set_option linter.unusedVariables false
set_option linter.unusedSimpArgs false
/-! ### slices_Clone_int_int: function 36 -/
-- MANUAL: this contract was written by hand.
def cloneI.f (l0 : List Int) : Option (List Int) := if l0.length < 17592186044416 then some l0 else none
set_option maxHeartbeats 8000000 in
set_option maxRecDepth 100000 in
theorem cloneI.calls (A0 : Option Addr) (c0 : Nat) (l0 : List Int) (r : List Int) (w : World) (hr0 : Kd.C (Kd.int .i64) w A0 l0.length l0) (hc0 : l0.length ≤ c0) (h : cloneI.f l0 = some r) :
  Calls Try.prog 36 #[.slice A0 l0.length c0] w fun e w' => ∃ v0_ : Value, e = .returned (v0_) ∧ Kd.R (Kd.int .i64) 3 w' w.heap.size (fun _ => True) v0_ r ∧ Below w.heap.size w w' := by
 have hnil := fun (W : World) (a : Option Addr) (n c : Nat) => Lib.run_eql_slice_nil (P := Try.prog) W 22 3 a n c 0 0 Try.underlying22
 unfold cloneI.f at h
 by_cases hl : l0.length < 17592186044416
 ·rw [if_pos hl] at h
  obtain rfl := Option.some.inj h
  clear h
  have HR := Aside0.mk hr0
  clear hr0
  cases A0 with
  | none =>
   have hl0 : l0 = [] := by
    cases l0 with
    | nil => rfl
    | cons a t =>
     (obtain ⟨ad, e, _⟩ := Kd.at_int HR.out 0 (by omega) (by simp <;> omega));(cases e)
   subst hl0
   go_enter Try.func36, Try.ntmps36
   go_wp2
   go_ret
   exact ⟨_, rfl, Kd.R_nil _ _ _ _ _, Below.refl _ _⟩
  | some a =>
   (have HL := Aside0.mk hl);(clear hl)
   go_enter Try.func36, Try.ntmps36
   go_wp2_with (first
    | ((with_reducible refine gate_dst (N := 5) rfl ?_); refine Kd.R_lit (Kd.int .i64) _ 3 ?hg (N := 5) ?hd (xs := ([] : List Int)) (inner := []) (ok := fun _ => True) (okp := fun _ => True) ?hr ?hp (fun _ hk => hk) trivial (Below.refl _ _) (Nat.le_refl _) (by simp) ?_; (case hd => rfl); (case hg => rfl); (case hr => first | (go_simp; done) | (go_simp; rfl)); (case hp => exact (Reps.none _ _)); intro v5 w5 ho5 hb5 hg5 hn5; have HO := Aside0.mk ho5; have HB := Aside0.mk hb5; clear ho5 hb5 hg5 hn5)
    | ((with_reducible refine gate_builtin (b := .append) (xs := #[.tmp 5, .tmp 6]) rfl ?_); at_builtin; refine Kd.R_append_rows (Kd.int .i64) (Rr := (Kd.int .i64).K w5) (w0 := w) w.heap.size rfl (.tmp 5) (.tmp 6) 22 3 (.int .i64 0) 8 rfl Try.underlying22 info3 rfl (by decide) (by omega) v5 [] l0 _ _ _ (fun _ => True) (fun _ => False) rfl rfl ?aO ?aR (fun x cs h => h) (fun _ h => h.elim) (fun _ _ => trivial) ?aB ?aS ?aL ?_; (case aR => exact Kd.C_below HR.out HB.out); (case aB => exact HB.out); (case aO => exact HO.out); (case aS => exact below_size HB.out); (case aL => have := HL.out; simp; omega); intro v7 w7 ho hb hg hat))
   go_ret
   exact ⟨_, rfl, ho, hb⟩
 ·rw [if_neg hl] at h
  exact absurd h (by simp)
/-! ### decomp_walker_item_1: function 35 -/
-- MANUAL: this contract was written by hand.
open Go.Proofs.YtnjdjnoncoeffaaW.Mine
set_option maxHeartbeats 8000000 in
theorem dcIs_calls (v at_ : Int) {gb : Nat} {w : World} (hb : w.cell? ⟨gb, 0, none⟩ = some (.int .i64 at_)) : Calls Try.prog 35 #[.int .i64 v, .pointer (some ⟨gb, 0, none⟩)] w fun e w' => e = .returned (.bool (decide (v = at_))) ∧ w = w' := by
 by_cases c : v = at_
 ·have hd : (v == at_) = true := by simp [c]
  rw [decide_eq_true c]
  clear c
  go_enter Try.func35, Try.ntmps35
  go_wp2
  go_ret
  exact ⟨rfl, rfl⟩
 ·have hd : (v == at_) = false := by simp [c]
  rw [decide_eq_false c]
  clear c
  go_enter Try.func35, Try.ntmps35
  go_wp2
  go_ret
  exact ⟨rfl, rfl⟩
/-! ### decomp_walker_item: function 29 -/
-- MANUAL: this contract was written by hand.
open Go.Proofs.YtnjdjnoncoeffaaW.Mine
/-- The walk to the next item. -/
def dcWalk (l : List S30) (left : List Int) (fin kind : Int) : Nat → List (List Int) → Int → List Int → List Int → Option (Int × List Int × List (List Int))
 | 0, _, _, _, _ => none
 | f + 1, ts, at_, xs, met =>
  match (ts.getD at_.toNat []).drop ((ts.getD at_.toNat []).findIdx (dcHas left)) with
  | [] => none
  | a :: rest =>
   if xs.length ≤ 1000000 then
    (if (rd_T30 l a).f1 = fin then some (kind, xs ++ [a], ts.set at_.toNat (a :: rest))
    else if met.findIdx (fun v => decide (v = (rd_T30 l a).f1)) < met.length then some (99, (xs ++ [a]).drop (met.findIdx (fun v => decide (v = (rd_T30 l a).f1))), ts.set at_.toNat (a :: rest))
    else dcWalk l left fin kind f (ts.set at_.toNat (a :: rest)) (rd_T30 l a).f1 (xs ++ [a]) (met ++ [(rd_T30 l a).f1]))
   else none
theorem dcWalk.mono (l : List S30) (left : List Int) (fin kind : Int) : ∀ (f : Nat) (ts : List (List Int)) (at_ : Int) (xs met : List Int), LeO (dcWalk l left fin kind f ts at_ xs met) (dcWalk l left fin kind (f + 1) ts at_ xs met)
 | 0, _, _, _, _ => fun r h => by simp [dcWalk] at h
 | f + 1, ts, at_, xs, met => by
  rw [dcWalk, dcWalk]
  split
  ·exact LeO.none _
  ·exact LeO.ite (LeO.ite (LeO.refl _) (LeO.ite (LeO.refl _) (dcWalk.mono l left fin kind f _ _ _ _))) (LeO.none _)
def dcItem (l : List S30) (left : List Int) (s t value : Int) (first : Int) (k : Nat) (ts : List (List Int)) : Option (Int × List Int × List (List Int)) :=
 if 0 < value then dcWalk l left t 112 k ts s [] [s] else if value < 0 then dcWalk l left s 98 k ts t [] [t] else dcWalk l left 0 99 k ts (rd_T30 l first).f0 [] [(rd_T30 l first).f0]
theorem dcItem.mono (l : List S30) (left : List Int) (s t value : Int) (first : Int) (k : Nat) (ts : List (List Int)) : LeO (dcItem l left s t value first k ts) (dcItem l left s t value first (k + 1) ts) :=
 LeO.ite (dcWalk.mono _ _ _ _ _ _ _ _ _) (LeO.ite (dcWalk.mono _ _ _ _ _ _ _ _ _) (dcWalk.mono _ _ _ _ _ _ _ _ _))
/-- What the numbers are. -/
def dcFit (n s t : Int) (l : List S30) (left : List Int) : Bool := decide (1 ≤ n ∧ n ≤ 1000000 ∧ 0 ≤ s ∧ s ≤ n ∧ 0 ≤ t ∧ t ≤ n ∧ l.length ≤ 2000 ∧ left.length = l.length) && l.all (fun a => decide (0 ≤ a.f0 ∧ a.f0 ≤ n ∧ 0 ≤ a.f1 ∧ a.f1 ≤ n))
/-- What holds of the arcs that may be left. -/
structure DcW (n : Int) (m k : Nat) (ts : List (List Int)) : Prop where
 mn : (m : Int) = n + 1
 tsl : ts.length = m
 tin : ∀ (v : Nat) (x : List Int), ts[v]? = some x → x.length ≤ 2000000 ∧ ∀ r ∈ x, 0 ≤ r ∧ r < (k : Int)
theorem DcW.drop {n : Int} {m k v : Nat} {ts : List (List Int)} (h : DcW n m k ts) {x : List Int} (j : Nat) (hx : ts[v]? = some x) : DcW n m k (ts.set v (x.drop j)) := by
 refine ⟨h.mn, by rw [List.length_set]; exact h.tsl, fun u y hy => ?_⟩
 by_cases c : u = v
 ·subst c
  rw [List.getElem?_set_self (List.getElem?_eq_some_iff.1 hx).1] at hy
  obtain rfl := Option.some.inj hy
  obtain ⟨h1, h2⟩ := h.tin _ _ hx
  exact ⟨by rw [List.length_drop]; omega, fun q hq => h2 q (List.mem_of_mem_drop hq)⟩
 ·rw [List.getElem?_set_ne (fun e => c e.symm)] at hy
  exact h.tin u y hy
/-- One more block, told another owner's. -/
def mark (own : Nat → Nat) (g t : Nat) : Nat → Nat := fun k => if k = g then t else own k
theorem mark_at (own : Nat → Nat) (g t : Nat) : mark own g t g = t := if_pos rfl
theorem mark_ne {own : Nat → Nat} {g t k : Nat} (h : k ≠ g) : mark own g t k = own k := if_neg h
theorem Stay.mark {own : Nat → Nat} {T : Nat → Prop} {W W1 : World} {g t : Nat} (hb : Below W.heap.size W W1) (hg : W.heap.size ≤ g) : Stay own (mark own g t) T W W1 := ⟨fun k hk _ => hb.block k hk, fun k hk => mark_ne (by omega)⟩
theorem dc_go {own own' own'' : Nat → Nat} {T : Nat → Prop} {w W W1 : World} (h : Stay own own' T w W ∧ w.heap.size ≤ W.heap.size) (s : Stay own' own'' T W W1) (hs : W.heap.size ≤ W1.heap.size) : Stay own own'' T w W1 ∧ w.heap.size ≤ W1.heap.size := ⟨Stay.trans h.1 h.2 s, Nat.le_trans h.2 hs⟩
theorem dcCloneCut {W : World} {base : Nat} {ok : Nat → Prop} {A : Option Addr} {n c j : Nat} {ys : List Int} (hn : ys.length = n) (h : (Kd.int .i64).R 3 W base ok (.slice A n c) ys) (hj : j < n) (hl : n ≤ 2000000) :
  Calls Try.prog 36 #[.slice (Option.map (fun x_ => Addr.add x_ j) A) (n - j) (c - j)] W fun e w' => ∃ v0_ : Value, e = .returned (v0_) ∧ Kd.R (Kd.int .i64) 3 w' W.heap.size (fun _ => True) v0_ (ys.drop j) ∧ Below W.heap.size W w' := by
 subst hn
 have hc := (Kd.R_reads' h).2.1
 have h1 := Kd.C_drop (m := j) (Kd.R_reads' h).2.2 (by omega) hc
 have e1 : (Kd.int .i64).sz = 1 := rfl
 rw [if_neg (by omega), e1, Nat.mul_one] at h1
 have h2 := cloneI.calls _ (c - j) (ys.drop j) (ys.drop j) W h1 (by rw [List.length_drop]; omega) (by unfold cloneI.f; rw [if_pos (by rw [List.length_drop]; omega)])
 rw [List.length_drop] at h2
 exact h2
/-- While the next item is walked to. -/
structure Di (tw te tl ti tk : Nat) (own own1 : Nat → Nat) (w0 w W : World) (gw : Nat) (c0 c1 c2 c3 : Value) (vl : Value) (left : List Int) (value : Int) (gt m : Nat) (ts : List (List Int)) (first : Int) (gr gx ga : Nat) (kd at_ : Int) (vx : Value) (xs : List Int) (vm : Value) (met : List Int) : Prop where
 dl : Dl tw te tl own1 w0 W gw c0 c1 c2 c3 vl left value gt m ts first
 rb : own1 gr = 5 ∧ W.heap[gr]? = some (.cells #[.int .u8 0, .slice none 0 0, .int .i64 0] tk (0, 0))
 xb : own1 gx = 4 ∧ W.heap[gx]? = some (.cells #[.int .u8 kd, vx, .int .i64 0] tk (0, 0))
 ab : own1 ga = 1 ∧ W.heap[ga]? = some (.cells #[.int .i64 at_] ti (0, 0))
 xr : (Kd.int .i64).R ti W w0.heap.size (fun k_ => own1 k_ = 3 ∧ w.heap.size ≤ k_) vx xs
 mr : (Kd.int .i64).R ti W w0.heap.size (fun k_ => own1 k_ = 2 ∧ w.heap.size ≤ k_) vm met
 st : Stay own own1 DlT w W ∧ w.heap.size ≤ W.heap.size
 lo : w0.heap.size ≤ w.heap.size ∧ w.heap.size ≤ gr ∧ w.heap.size ≤ gx ∧ w.heap.size ≤ ga
section
variable {tw te tl ti tk : Nat} {own own1 own2 : Nat → Nat} {T : Nat → Prop} {w0 w W W1 : World} {gw : Nat} {c0 c1 c2 c3 : Value} {vl : Value} {left : List Int} {value : Int} {gt m : Nat} {ts ts2 : List (List Int)} {first : Int} {gr gx ga : Nat} {kd at_ : Int} {vx : Value} {xs : List Int} {vm : Value} {met : List Int}
theorem dc_rstay {tag b base : Nat} {v : Value} {ys : List Int} (h : (Kd.int .i64).R ti W base (fun k_ => own1 k_ = tag ∧ b ≤ k_) v ys) (s : Stay own1 own2 T W W1) (hT : ¬ T tag) : (Kd.int .i64).R ti W1 base (fun k_ => own2 k_ = tag ∧ b ≤ k_) v ys :=
 Kd.R_mono (Kd.R_move (Kd.R_bound h) (fun k hk => s.heap k hk.2.2.1 (by rw [hk.1.1]; exact hT))) (fun k hk => ⟨(s.own k hk.2.2.1).trans hk.1.1, hk.1.2⟩)
theorem dc_blk {g tag : Nat} {o : Obj} (h : own1 g = tag ∧ W.heap[g]? = some o) (s : Stay own1 own2 T W W1) (hT : ¬ T tag) : own2 g = tag ∧ W1.heap[g]? = some o :=
 ⟨(s.own g (blk_lt h.2)).trans h.1, (s.heap g (blk_lt h.2) (by rw [h.1]; exact hT)).trans h.2⟩
/-- What is turned is younger than w. -/
theorem dc_far (h : Stay own own1 DlT w W ∧ w.heap.size ≤ W.heap.size) (hk : ∀ k, k < w.heap.size → W1.heap[k]? = W.heap[k]?) (ho : ∀ k, k < W.heap.size → own2 k = own1 k) (hs : W.heap.size ≤ W1.heap.size) : Stay own own2 DlT w W1 ∧ w.heap.size ≤ W1.heap.size :=
 ⟨⟨fun k h1 h2 => (hk k h1).trans (h.1.heap k h1 h2), fun k h1 => (ho k (by have := h.2; omega)).trans (h.1.own k h1)⟩, Nat.le_trans h.2 hs⟩
theorem dc_close {tag b base : Nat} {v : Value} {ys : List Int} (hb : b ≤ W.heap.size) (h : (Kd.int .i64).R ti W1 base (fun k_ => (own1 k_ = tag ∧ b ≤ k_) ∨ W.heap.size ≤ k_) v ys) : (Kd.int .i64).R ti W1 base (fun k_ => more own1 W tag k_ = tag ∧ b ≤ k_) v ys := Kd.R_mono h (fun k hk => by
 unfold more
 by_cases c : k < W.heap.size
 ·rw [if_pos c]
  rcases hk with hk | hk
  ·exact hk
  ·omega
 ·rw [if_neg c]
  exact ⟨rfl, by omega⟩)
theorem Di.dstep (h : Di tw te tl ti tk own own1 w0 w W gw c0 c1 c2 c3 vl left value gt m ts first gr gx ga kd at_ vx xs vm met) (hd : Dl tw te tl own1 w0 W1 gw c0 c1 c2 c3 vl left value gt m ts2 first) (s : Stay own1 own1 DlT W W1) (hs : W.heap.size ≤ W1.heap.size) :
  Di tw te tl ti tk own own1 w0 w W1 gw c0 c1 c2 c3 vl left value gt m ts2 first gr gx ga kd at_ vx xs vm met :=
 ⟨hd, dc_blk h.rb s (by unfold DlT; decide), dc_blk h.xb s (by unfold DlT; decide), dc_blk h.ab s (by unfold DlT; decide), dc_rstay h.xr s (by unfold DlT; decide), dc_rstay h.mr s (by unfold DlT; decide), dc_go h.st s hs, h.lo⟩
theorem Di.move (h : Di tw te tl ti tk own own1 w0 w W gw c0 c1 c2 c3 vl left value gt m ts first gr gx ga kd at_ vx xs vm met) (hb : Below W.heap.size W W1) : Di tw te tl ti tk own own1 w0 w W1 gw c0 c1 c2 c3 vl left value gt m ts first gr gx ga kd at_ vx xs vm met :=
 h.dstep (h.dl.move hb) (Stay.below hb) (below_size hb)
/-- The arcs grown by one, and written back. -/
theorem Di.push (h : Di tw te tl ti tk own own1 w0 w W gw c0 c1 c2 c3 vl left value gt m ts first gr gx ga kd at_ vx xs vm met) {u : Value} {ys : List Int} (hg : W.grownBy W1 vx.ownBlock) (h1 : (Kd.int .i64).R ti W1 w0.heap.size (fun k_ => (own1 k_ = 3 ∧ w.heap.size ≤ k_) ∨ W.heap.size ≤ k_) u ys) (hb : Below w0.heap.size w0 W1) :
  (W1.cell? ⟨gx, 1, none⟩ = some vx ∧ W1.frozen? ⟨gx, 1, none⟩ = false) ∧ Di tw te tl ti tk own (more own1 W 3) w0 w (W1.setCell ⟨gx, 1, none⟩ u) gw c0 c1 c2 c3 vl left value gt m ts first gr gx ga kd at_ u ys vm met := by
 have s1 : Stay own1 (more own1 W 3) (fun t => t = 3) W W1 := Stay.grown hg (fun k hk => (h.xr.1 k hk).1)
 have hx := dc_blk h.xb s1 (by decide)
 have s2 : Stay (more own1 W 3) (more own1 W 3) (fun t => t = 4) W1 (W1.setCell ⟨gx, 1, none⟩ u) := Stay.set hx.1
 have hl := h.lo
 exact ⟨⟨(blk_cell hx.2 1).trans rfl, blk_frozen hx.2 1⟩, (h.dl.stay s1 hb (by decide) (by decide) (by decide) (fun j => by omega)).stay s2 (below_set hb (by show w0.heap.size ≤ gx; omega)) (by decide) (by decide) (by decide) (fun j => by omega), dc_blk (dc_blk h.rb s1 (by decide)) s2 (by decide), ⟨hx.1, blk_put hx.2 1 u rfl⟩, dc_blk (dc_blk h.ab s1 (by decide)) s2 (by decide), dc_rstay (dc_close h.st.2 h1) s2 (by decide), dc_rstay (dc_rstay h.mr s1 (by decide)) s2 (by decide),
  dc_far h.st (fun k hk => (Below.heap_setCell W1 ⟨gx, 1, none⟩ u k (fun e => by have e2 : k = gx := e; omega)).trans (hg.block k (by have := h.st.2; omega) (fun e => by have := (h.xr.1 k e.symm).2; omega))) (fun k hk => more_old hk) (Nat.le_trans hg.size (dc_size _ _)), h.lo⟩
/-- The next node. -/
theorem Di.goTo (h : Di tw te tl ti tk own own1 w0 w W gw c0 c1 c2 c3 vl left value gt m ts first gr gx ga kd at_ vx xs vm met) (x : Int) : Di tw te tl ti tk own own1 w0 w (W.setCell ⟨ga, 0, none⟩ (.int .i64 x)) gw c0 c1 c2 c3 vl left value gt m ts first gr gx ga kd x vx xs vm met := by
 have s : Stay own1 own1 (fun t => t = 1) W (W.setCell ⟨ga, 0, none⟩ (.int .i64 x)) := Stay.set h.ab.1
 have hl := h.lo
 exact ⟨h.dl.stay s (below_set h.dl.below (by show w0.heap.size ≤ ga; omega)) (by decide) (by decide) (by decide) (fun j => by omega), dc_blk h.rb s (by decide), dc_blk h.xb s (by decide), ⟨h.ab.1, blk_put h.ab.2 0 _ rfl⟩, dc_rstay h.xr s (by decide), dc_rstay h.mr s (by decide),
  dc_far h.st (fun k hk => Below.heap_setCell W ⟨ga, 0, none⟩ _ k (fun e => by have e2 : k = ga := e; omega)) (fun k hk => rfl) (dc_size _ _), h.lo⟩
/-- One more node was met. -/
theorem Di.meet (h : Di tw te tl ti tk own own1 w0 w W gw c0 c1 c2 c3 vl left value gt m ts first gr gx ga kd at_ vx xs vm met) {u : Value} {ys : List Int} (hg : W.grownBy W1 vm.ownBlock) (h1 : (Kd.int .i64).R ti W1 w0.heap.size (fun k_ => (own1 k_ = 2 ∧ w.heap.size ≤ k_) ∨ W.heap.size ≤ k_) u ys) (hb : Below w0.heap.size w0 W1) :
  Di tw te tl ti tk own (more own1 W 2) w0 w W1 gw c0 c1 c2 c3 vl left value gt m ts first gr gx ga kd at_ vx xs u ys := by
 have s1 : Stay own1 (more own1 W 2) (fun t => t = 2) W W1 := Stay.grown hg (fun k hk => (h.mr.1 k hk).1)
 exact ⟨h.dl.stay s1 hb (by decide) (by decide) (by decide) (fun j => by omega), dc_blk h.rb s1 (by decide), dc_blk h.xb s1 (by decide), dc_blk h.ab s1 (by decide), dc_rstay h.xr s1 (by decide), dc_close h.st.2 h1,
  dc_far h.st (fun k hk => hg.block k (by have := h.st.2; omega) (fun e => by have := (h.mr.1 k e.symm).2; omega)) (fun k hk => more_old hk) hg.size, h.lo⟩
/-- A row made anew, that is told. -/
theorem Di.told (h : Di tw te tl ti tk own own1 w0 w W gw c0 c1 c2 c3 vl left value gt m ts first gr gx ga kd at_ vx xs vm met) (hb : Below W.heap.size W W1) {u : Value} {ys : List Int} (ho : (Kd.int .i64).R ti W1 W.heap.size (fun _ => True) u ys) :
  Di tw te tl ti tk own (more own1 W 3) w0 w W1 gw c0 c1 c2 c3 vl left value gt m ts first gr gx ga kd at_ vx xs vm met ∧ (Kd.int .i64).R ti W1 w0.heap.size (fun k_ => more own1 W 3 k_ = 3 ∧ w.heap.size ≤ k_) u ys := by
 have s : Stay own1 (more own1 W 3) (fun _ => False) W W1 := ⟨fun k hk _ => hb.block k hk, fun k hk => more_old hk⟩
 have hl := h.lo
 have h9 := h.st.2
 refine ⟨⟨h.dl.stay s (below_step h.dl.below hb) id id id (fun _ => id), dc_blk h.rb s id, dc_blk h.xb s id, dc_blk h.ab s id, dc_rstay h.xr s id, dc_rstay h.mr s id, dc_far h.st (fun k hk => hb.block k (by omega)) (fun k hk => more_old hk) (below_size hb), h.lo⟩, Kd.R_mono (Kd.R_lower (Kd.R_bound ho) (by omega)) (fun k hk => ?_)⟩
 have h2 := hk.2.1
 unfold more
 rw [if_neg (by omega)]
 exact ⟨rfl, by omega⟩
/-- The item is told. -/
theorem Di.ret (h : Di tw te tl ti tk own own1 w0 w W gw c0 c1 c2 c3 vl left value gt m ts first gr gx ga kd at_ vx xs vm met) {x u : Value} {ys : List Int} (hu : (Kd.int .i64).R ti W w0.heap.size (fun k_ => own1 k_ = 3 ∧ w.heap.size ≤ k_) u ys) :
  (((W.setCell ⟨gr, 0, none⟩ x).setCell ⟨gr, 1, none⟩ u).setCell ⟨gr, 2, none⟩ (.int .i64 0)).heap[gr]? = some (.cells #[x, u, .int .i64 0] tk (0, 0)) ∧
  Dl tw te tl own1 w0 (((W.setCell ⟨gr, 0, none⟩ x).setCell ⟨gr, 1, none⟩ u).setCell ⟨gr, 2, none⟩ (.int .i64 0)) gw c0 c1 c2 c3 vl left value gt m ts first ∧
  (Stay own own1 DlT w (((W.setCell ⟨gr, 0, none⟩ x).setCell ⟨gr, 1, none⟩ u).setCell ⟨gr, 2, none⟩ (.int .i64 0)) ∧ w.heap.size ≤ (((W.setCell ⟨gr, 0, none⟩ x).setCell ⟨gr, 1, none⟩ u).setCell ⟨gr, 2, none⟩ (.int .i64 0)).heap.size) ∧
  (Kd.int .i64).R ti (((W.setCell ⟨gr, 0, none⟩ x).setCell ⟨gr, 1, none⟩ u).setCell ⟨gr, 2, none⟩ (.int .i64 0)) w0.heap.size (fun k_ => own1 k_ = 3 ∧ w.heap.size ≤ k_) u ys := by
 have s1 : Stay own1 own1 (fun t => t = 5) W (W.setCell ⟨gr, 0, none⟩ x) := Stay.set h.rb.1
 have s2 : Stay own1 own1 (fun t => t = 5) (W.setCell ⟨gr, 0, none⟩ x) ((W.setCell ⟨gr, 0, none⟩ x).setCell ⟨gr, 1, none⟩ u) := Stay.set h.rb.1
 have s3 : Stay own1 own1 (fun t => t = 5) ((W.setCell ⟨gr, 0, none⟩ x).setCell ⟨gr, 1, none⟩ u) (((W.setCell ⟨gr, 0, none⟩ x).setCell ⟨gr, 1, none⟩ u).setCell ⟨gr, 2, none⟩ (.int .i64 0)) := Stay.set h.rb.1
 have s := (s1.trans (dc_size _ _) s2).trans (Nat.le_trans (dc_size _ _) (dc_size _ _)) s3
 have hl := h.lo
 have hg : w0.heap.size ≤ gr := by omega
 have hz : W.heap.size ≤ (((W.setCell ⟨gr, 0, none⟩ x).setCell ⟨gr, 1, none⟩ u).setCell ⟨gr, 2, none⟩ (.int .i64 0)).heap.size := Nat.le_trans (dc_size _ _) (Nat.le_trans (dc_size _ _) (dc_size _ _))
 refine ⟨blk_put (blk_put (blk_put h.rb.2 0 x rfl) 1 u rfl) 2 _ rfl, h.dl.stay s (below_set (below_set (below_set h.dl.below hg) hg) hg) (by decide) (by decide) (by decide) (fun j => by omega), dc_far h.st (fun k hk => ?_) (fun k hk => rfl) hz, dc_rstay hu s (by decide)⟩
 have hk2 : k ≠ gr := by omega
 exact (Below.heap_setCell _ ⟨gr, 2, none⟩ _ k hk2).trans ((Below.heap_setCell _ ⟨gr, 1, none⟩ _ k hk2).trans (Below.heap_setCell W ⟨gr, 0, none⟩ _ k hk2))
/-- The beginning. -/
theorem Di.start {gm : Nat} (hd : Dl tw te tl own w0 w gw c0 c1 c2 c3 vl left value gt m ts first) (hb : Below w.heap.size w W) (hr : W.heap[gr]? = some (.cells #[.int .u8 0, .slice none 0 0, .int .i64 0] tk (0, 0))) (hx : W.heap[gx]? = some (.cells #[.int .u8 kd, .slice none 0 0, .int .i64 0] tk (0, 0)))
  (ha : W.heap[ga]? = some (.cells #[.int .i64 at_] ti (0, 0))) (h1 : gr ≠ gx ∧ gr ≠ ga ∧ gx ≠ ga ∧ w.heap.size ≤ gr ∧ w.heap.size ≤ gx ∧ w.heap.size ≤ ga) (hm : (Kd.int .i64).R ti W w0.heap.size (fun k_ => gm ≤ k_) vm met) (h2 : gr < gm ∧ gx < gm ∧ ga < gm ∧ w.heap.size ≤ gm) :
  ∃ own1, Di tw te tl ti tk own own1 w0 w W gw c0 c1 c2 c3 vl left value gt m ts first gr gx ga kd at_ (.slice none 0 0) [] vm met := by
 refine ⟨fun k => if k < w.heap.size then own k else if k = gr then 5 else if k = gx then 4 else if k = ga then 1 else 2, ?_⟩
 have s : Stay own (fun k => if k < w.heap.size then own k else if k = gr then 5 else if k = gx then 4 else if k = ga then 1 else 2) (fun _ => False) w W := ⟨fun k hk _ => hb.block k hk, fun k hk => if_pos hk⟩
 refine ⟨hd.stay s (below_step hd.below hb) id id id (fun _ => id), ⟨?_, hr⟩, ⟨?_, hx⟩, ⟨?_, ha⟩, Kd.R_nil _ _ _ _ _, Kd.R_mono hm (fun k hk => ⟨?_, by omega⟩), ⟨dc_weak s (fun t e => e.elim), below_size hb⟩, below_size hd.below, h1.2.2.2⟩
 ·show (if gr < w.heap.size then own gr else if gr = gr then 5 else _) = 5
  rw [if_neg (by omega), if_pos rfl]
 ·show (if gx < w.heap.size then own gx else if gx = gr then 5 else if gx = gx then 4 else _) = 4
  rw [if_neg (by omega), if_neg (fun e => h1.1 e.symm), if_pos rfl]
 ·show (if ga < w.heap.size then own ga else if ga = gr then 5 else if ga = gx then 4 else if ga = ga then 1 else 2) = 1
  rw [if_neg (by omega), if_neg (fun e => h1.2.1 e.symm), if_neg (fun e => h1.2.2.1 e.symm), if_pos rfl]
 ·show (if k < w.heap.size then own k else if k = gr then 5 else if k = gx then 4 else if k = ga then 1 else 2) = 2
  rw [if_neg (by omega), if_neg (by omega), if_neg (by omega), if_neg (by omega)]
end
set_option maxHeartbeats 8000000 in
set_option maxRecDepth 100000 in
theorem dcItem_calls (k : Nat) {own : Nat → Nat} {w0 w : World} {gw : Nat} {n s t : Int} {A3 : Option Addr} {c3 : Nat} {l : List (S30)} {vl : Value} {left : List Int} {value : Int} {gt m : Nat} {ts : List (List Int)} (first : Nat) (hf : first < l.length) {kind : Int} {xs2 : List Int} {ts2 : List (List Int)}
  (HR : Kd.C k30 w0 A3 l.length l) (HC : l.length ≤ c3) (hfit : dcFit n s t l left = true) (hw : DcW n m left.length ts) (hn : dcItem l left s t value (first : Int) k ts = some (kind, xs2, ts2))
  (h : Dl 58 2 22 own w0 w gw (.int .i64 n) (.int .i64 s) (.int .i64 t) (.slice A3 l.length c3) vl left value gt m ts (first : Int)) :
  Calls Try.prog 29 #[.pointer (some ⟨gw, 0, none⟩)] w fun e w' => ∃ At : Value, e = .returned (.agg #[.int .u8 kind, At, .int .i64 0]) ∧ ∃ own' : Nat → Nat, Dl 58 2 22 own' w0 w' gw (.int .i64 n) (.int .i64 s) (.int .i64 t) (.slice A3 l.length c3) vl left value gt m ts2 (first : Int) ∧ DcW n m left.length ts2 ∧ Stay own own' DlT w w' ∧ w.heap.size ≤ w'.heap.size ∧ (Kd.int .i64).R 3 w' w0.heap.size (fun k_ => own' k_ = 3 ∧ w.heap.size ≤ k_) At xs2 := by
 have hu98 := Try.underlying58
 have hu26 := Try.underlying26
 have hu30 := Try.underlying30
 have hu36 := Try.underlying36
 have hmf : ∀ (fn : Fn) (first cap : Array Value) (w : World), (Instr.makeFunc fn first cap).run Try.prog w = .ok (.func fn first cap) w := fun _ _ _ _ => rfl
 have HP := Aside0.mk h
 have HN := Aside0.mk hn
 have HW := Aside0.mk hw
 have HRR := Aside0.mk HR
 have HCC := Aside0.mk HC
 have hfit2 := hfit
 simp only [dcFit, Bool.and_eq_true, decide_eq_true_eq] at hfit2
 obtain ⟨⟨f0, f1, f2, f3, f4, f5, f6, f7⟩, f8⟩ := hfit2
 have HFF : Aside0 (1 ≤ n ∧ n ≤ 1000000 ∧ 0 ≤ s ∧ s ≤ n ∧ 0 ≤ t ∧ t ≤ n ∧ l.length ≤ 2000 ∧ left.length = l.length) := ⟨⟨f0, f1, f2, f3, f4, f5, f6, f7⟩⟩
 have HFA : Aside0 (∀ j : Nat, j < l.length → 0 ≤ (rd_T30 l (j : Int)).f0 ∧ (rd_T30 l (j : Int)).f0 ≤ n ∧ 0 ≤ (rd_T30 l (j : Int)).f1 ∧ (rd_T30 l (j : Int)).f1 ≤ n) := ⟨fun j hj => by
  have e_ : rd_T30 l (j : Int) = l[j] := by simp [rd_T30, hj]
  rw [e_]
  have h_ := List.all_eq_true.1 f8 l[j] (List.getElem_mem hj)
  exact of_decide_eq_true h_⟩
 have HF := Aside0.mk hf
 clear h hn hw HR HC hfit f0 f1 f2 f3 f4 f5 f6 f7 f8
 go_enter Try.func29, Try.ntmps29
 go_wp2_with (first
  | ((with_reducible refine gate_dst (N := 2) rfl ?_); refine box_event ?hg (N := 2) ?hd (cs := #[.int .u8 0, .slice none 0 0, .int .i64 0]) (t := 36) ?hr ?_; (case hd => rfl); (case hg => rfl); (case hr => first | (go_simp; done) | (go_simp; rfl)); intro gr hgr w1 hbox hb; have BR := Aside0.mk hbox; have GR : Aside0 (gr = w.heap.size) := ⟨hgr⟩; have HB1 := Aside0.mk hb; clear hbox hgr hb)
  | ((with_reducible refine gate_dst (N := 3) rfl ?_); refine box_event ?hg (N := 3) ?hd (cs := #[.int .u8 0, .slice none 0 0, .int .i64 0]) (t := 36) ?hr ?_; (case hd => rfl); (case hg => rfl); (case hr => first | (go_simp; done) | (go_simp; rfl)); intro gx hgx w2 hbox hb; have BX := Aside0.mk hbox; have GX : Aside0 (gx = w1.heap.size) := ⟨hgx⟩; have HB2 := Aside0.mk hb; have hc0 : w2.cell? ⟨gx, 0, none⟩ = some (.int .u8 0) := (blk_cell hbox 0).trans rfl; have hc1 : w2.cell? ⟨gx, 1, none⟩ = some (.slice none 0 0) := (blk_cell hbox 1).trans rfl; have hc2 : w2.cell? ⟨gx, 2, none⟩ = some (.int .i64 0) := (blk_cell hbox 2).trans rfl; have hq0 : w2.frozen? ⟨gx, 0, none⟩ = false := blk_frozen hbox 0; have hq1 : w2.frozen? ⟨gx, 1, none⟩ = false := blk_frozen hbox 1; have hq2 : w2.frozen? ⟨gx, 2, none⟩ = false := blk_frozen hbox 2; clear hbox hgx hb))
 have HW3 : Aside0 (Below w.heap.size w (((w2.setCell ⟨gx, 0, none⟩ (.int .u8 99)).setCell ⟨gx, 1, none⟩ (.slice none 0 0)).setCell ⟨gx, 2, none⟩ (.int .i64 0))) := ⟨by
  have h1_ := below_size HB1.out
  have h2_ := GX.out
  exact below_set (below_set (below_set (below_step HB1.out HB2.out) (by omega)) (by omega)) (by omega)⟩
 have BX3 : Aside0 ((((w2.setCell ⟨gx, 0, none⟩ (.int .u8 99)).setCell ⟨gx, 1, none⟩ (.slice none 0 0)).setCell ⟨gx, 2, none⟩ (.int .i64 0)).heap[gx]? = some (.cells #[.int .u8 99, .slice none 0 0, .int .i64 0] 36 (0, 0))) := ⟨blk_put (blk_put (blk_put BX.out 0 _ rfl) 1 _ rfl) 2 _ rfl⟩
 have GN : Aside0 (gr ≠ gx ∧ w.heap.size ≤ gr ∧ w.heap.size ≤ gx) := ⟨by
  have h1_ := blk_lt BR.out
  have h2_ := GX.out
  have h3_ := GR.out
  exact ⟨by omega, by omega, by have h4_ := below_size HB1.out; omega⟩⟩
 have BR3 : Aside0 ((((w2.setCell ⟨gx, 0, none⟩ (.int .u8 99)).setCell ⟨gx, 1, none⟩ (.slice none 0 0)).setCell ⟨gx, 2, none⟩ (.int .i64 0)).heap[gr]? = some (.cells #[.int .u8 0, .slice none 0 0, .int .i64 0] 36 (0, 0))) := ⟨blk_far (blk_far (blk_far (blk_below BR.out HB2.out) GN.out.1 _) GN.out.1 _) GN.out.1 _⟩
 clear hc0 hc1 hc2 hq0 hq1 hq2 BR BX GR GX HB1 HB2
 generalize (((w2.setCell ⟨gx, 0, none⟩ (.int .u8 99)).setCell ⟨gx, 1, none⟩ (.slice none 0 0)).setCell ⟨gx, 2, none⟩ (.int .i64 0)) = w3 at *
 have HP3 := Aside0.mk (HP.out.move HW3.out)
 have h3 := HP3.out.g3
 have h7 := HP3.out.g7
 have hfl : (first : Int) < (l.length : Int) := by have h_ := HF.out; omega
 have hf0 : (0 : Int) ≤ (first : Int) := by omega
 obtain ⟨ad, ea, hx0, hx1, hx2⟩ := at_T30 (Kd.C_below HRR.out HP3.out.below) (first : Int) hf0 hfl
 subst ea
 rw [Int.toNat_natCast] at hx0 hx1 hx2
 have ha3 : ∀ o : Obj, (w3.alloc o).cell? ⟨gw, 3, none⟩ = some (.slice (some ad) l.length c3) := fun o => (blk_cell (blk_alloc HP3.out.box.2.2 o) 3).trans rfl
 have ha7 : ∀ o : Obj, (w3.alloc o).cell? ⟨gw, 7, none⟩ = some (.int .i64 (first : Int)) := fun o => (blk_cell (blk_alloc HP3.out.box.2.2 o) 7).trans rfl
 have hax : ∀ o : Obj, (w3.alloc o).cell? (ad.add (first * 3)) = some (.int .i64 (rd_T30 l (first : Int)).f0) := fun o => pw_cell_below (below_alloc (Below.refl _ _) o) hx0
 generalize hu0 : (rd_T30 l (first : Int)).f0 = u0 at hx0 hax
 have HU0 := Aside0.mk hu0
 clear hx1 hx2 hu0
 go_region
 have hb34 : Below w3.heap.size w3 (w3.alloc (.cells #[.int .i64 u0] 3)).drew := below_drew (below_alloc (Below.refl _ _) _)
 have BA : Aside0 ((w3.alloc (.cells #[.int .i64 u0] 3)).drew.heap[w3.heap.size]? = some (.cells #[.int .i64 u0] 3 (0, 0))) := ⟨blk_drew (blk_new w3 (.cells #[.int .i64 u0] 3))⟩
 have BX4 := Aside0.mk (blk_below BX3.out hb34)
 have BR4 := Aside0.mk (blk_below BR3.out hb34)
 have HW4 := Aside0.mk (below_step HW3.out hb34)
 have GA : Aside0 (gr ≠ w3.heap.size ∧ gx ≠ w3.heap.size ∧ w.heap.size ≤ w3.heap.size) := ⟨by
  have h1_ := blk_lt BR3.out
  have h2_ := blk_lt BX3.out
  exact ⟨by omega, by omega, below_size HW3.out⟩⟩
 clear h3 h7 ha3 ha7 hax hx0 hb34 BX3 BR3 HW3 HP3
 generalize hga : w3.heap.size = ga at *
 generalize (w3.alloc (.cells #[.int .i64 u0] 3)).drew = w4 at *
 clear hga
 have HP4 := Aside0.mk (HP.out.move HW4.out)
 have h0 := HP4.out.g0
 have h1 := HP4.out.g1
 have h2 := HP4.out.g2
 have h5 := HP4.out.g5
 have hcx : w4.cell? ⟨gx, 0, none⟩ = some (.int .u8 99) := (blk_cell BX4.out 0).trans rfl
 have hca : w4.cell? ⟨ga, 0, none⟩ = some (.int .i64 u0) := (blk_cell BA.out 0).trans rfl
 have hfx : w4.frozen? ⟨gx, 0, none⟩ = false := blk_frozen BX4.out 0
 have hfa : w4.frozen? ⟨ga, 0, none⟩ = false := blk_frozen BA.out 0
 have hax : ¬ ga = gx := fun e_ => GA.out.2.1 e_.symm
 have haw : ¬ ga = gw := by
  have h_ := blk_lt HP.out.box.2.2
  have h2_ := GA.out.2.2
  omega
 have hxw : ¬ gx = gw := by
  have h_ := blk_lt HP.out.box.2.2
  have h2_ := GN.out.2.2
  omega
 go_upto_block 0 with (fail)
 go_cut [5] (fun v5 wc => ∃ (kd at0 fn_ : Int), v5 = .int .i64 fn_ ∧ Aside0 (dcWalk l left fn_ kd k ts at0 [] [at0] = some (kind, xs2, ts2)) ∧ Aside0 (0 ≤ at0 ∧ at0 ≤ n) ∧ Aside0 (wc.heap[gx]? = some (.cells #[.int .u8 kd, .slice none 0 0, .int .i64 0] 36 (0, 0))) ∧ Aside0 (wc.heap[ga]? = some (.cells #[.int .i64 at0] 3 (0, 0))) ∧ Aside0 (wc.heap[gr]? = some (.cells #[.int .u8 0, .slice none 0 0, .int .i64 0] 36 (0, 0))) ∧ Aside0 (Below w.heap.size w wc))
 case first =>
  have hn := HN.out
  unfold dcItem at hn
  by_cases c1 : 0 < value
  ·rw [if_pos c1] at hn
   (have hd1 : decide (value > 0) = true := decide_eq_true c1);(have HD := Aside0.mk hn);(have HFI : Aside0 (0 ≤ s ∧ s ≤ n) := ⟨by have h_ := HFF.out; omega⟩);(clear c1 hn)
   go_wp2_with fail
   go_region
   all_goals (go_wp2_with fail)
   all_goals go_meet
   case rel => exact ⟨112, s, t, rfl, HD, HFI, ⟨blk_drew (blk_far (blk_put BX4.out 0 _ rfl) GA.out.2.1 _)⟩, ⟨blk_drew (blk_put (blk_far BA.out (fun e_ => GA.out.2.1 e_.symm) _) 0 _ rfl)⟩, ⟨blk_drew (blk_far (blk_far BR4.out GN.out.1 _) GA.out.1 _)⟩, ⟨below_drew (below_set (below_set HW4.out GN.out.2.2) GA.out.2.2)⟩⟩
  ·rw [if_neg c1] at hn
   have hd1 : decide (value > 0) = false := decide_eq_false c1
   by_cases c2 : value < 0
   ·(rw [if_pos c2] at hn);(have hd2 : decide (value < 0) = true := decide_eq_true c2);(have HD := Aside0.mk hn);(have HFI : Aside0 (0 ≤ t ∧ t ≤ n) := ⟨by have h_ := HFF.out; omega⟩);(clear c1 c2 hn)
    go_wp2_with fail
    go_region
    all_goals (go_wp2_with fail)
    all_goals go_meet
    case rel => exact ⟨98, t, s, rfl, HD, HFI, ⟨blk_drew (blk_far (blk_put BX4.out 0 _ rfl) GA.out.2.1 _)⟩, ⟨blk_drew (blk_put (blk_far BA.out (fun e_ => GA.out.2.1 e_.symm) _) 0 _ rfl)⟩, ⟨blk_drew (blk_far (blk_far BR4.out GN.out.1 _) GA.out.1 _)⟩, ⟨below_drew (below_set (below_set HW4.out GN.out.2.2) GA.out.2.2)⟩⟩
   ·(rw [if_neg c2, HU0.out] at hn);(have hd2 : decide (value < 0) = false := decide_eq_false c2);(have HD := Aside0.mk hn);(have HFI : Aside0 (0 ≤ u0 ∧ u0 ≤ n) := ⟨by have h_ := HFA.out first HF.out; rw [HU0.out] at h_; omega⟩);(clear c1 c2 hn)
    go_wp2_with fail
    go_meet
    case rel => exact ⟨99, u0, 0, rfl, HD, HFI, BX4, BA, BR4, HW4⟩
 case rest =>
  clear h0 h1 h2 h5 hcx hca hfx hfa hax haw hxw BX4 BA BR4 HW4 HP4 HN HU0
  obtain ⟨kd, at0, fn_, hv5, HD, HFI, BX, BA, BR, HWC⟩ := hcut
  subst hv5
  have hca : wc.cell? ⟨ga, 0, none⟩ = some (.int .i64 at0) := (blk_cell BA.out 0).trans rfl
  go_wp2_with ((with_reducible refine gate_dst (N := 57) rfl ?_); refine Kd.R_lit (Kd.int .i64) (w0 := w0) w0.heap.size 3 ?lg (N := 57) ?ld (xs := ([at0] : List Int)) (inner := [.int .i64 at0]) (ok := fun k_ => wc.heap.size ≤ k_) (okp := fun _ => False) ?lr ?lp (fun _ hk => hk.elim) (Nat.le_refl _) (below_step HP.out.below HWC.out) (below_size (below_step HP.out.below HWC.out)) (by simp) ?_; (case ld => rfl); (case lg => rfl); (case lr => first | (go_simp; done) | (go_simp; rfl)); (case lp => exact (Reps.snoc (p := (at0 : Int)) (c := [.int .i64 (at0 : Int)]) (Reps.none _ _) rfl rfl)); intro v57 w5 ho5 hb5 hg5 hn5; have HO5 := Aside0.mk ho5; have HG5 := Aside0.mk hg5; clear ho5 hb5 hg5 hn5 hca)
  have hb5 : Below wc.heap.size wc w5 := ⟨HG5.out.os, HG5.out.tape, HG5.out.output, HG5.out.size, fun k_ h_ => HG5.out.block k_ h_ (by simp)⟩
  obtain ⟨own1, hi5⟩ := Di.start (tk := 36) (gr := gr) (gx := gx) (ga := ga) (gm := wc.heap.size) HP.out (below_step HWC.out hb5) (blk_below BR.out hb5) (blk_below BX.out hb5) (blk_below BA.out hb5) ⟨GN.out.1, GA.out.1, GA.out.2.1, GN.out.2.1, GN.out.2.2, GA.out.2.2⟩ HO5.out ⟨blk_lt BR.out, blk_lt BX.out, blk_lt BA.out, below_size HWC.out⟩
  have HI5 := Aside0.mk hi5
  clear hb5 hi5 HO5 HG5 BX BA BR HWC HP GN GA
  go_loopg [6] k (fun kq v6 wr => ∃ (own1 : Nat → Nat) (ts : List (List Int)) (at_ : Int) (vx : Value) (xs : List Int) (vm : Value) (met : List Int), v6 = vm ∧ Aside0 (Di 58 2 22 3 36 own own1 w0 w wr gw (.int .i64 n) (.int .i64 s) (.int .i64 t) (.slice (some ad) l.length c3) vl left value gt m ts (first : Int) gr gx ga kd at_ vx xs vm met) ∧ Aside0 (dcWalk l left fn_ kd kq ts at_ xs met = some (kind, xs2, ts2)) ∧ Aside0 (DcW n m left.length ts) ∧ Aside0 (0 ≤ at_ ∧ at_ ≤ n) ∧ Aside0 (met.length = xs.length + 1 ∧ xs.length ≤ 1000001))
  case atStart => exact ⟨own1, ts, at0, _, [], v57, [at0], rfl, HI5, HD, HW, HFI, ⟨rfl, by simp⟩⟩
  case round =>
   (clear HI5 HD HW HFI);(obtain ⟨own1, ts, at_, vx, xs, vm, met, rfl, HI, HD, HW, HFI, HLEN⟩ := hrel)
   obtain ⟨f, hf⟩ : ∃ f, gk = f + 1 := by
    cases gk with
    | zero => have h_ := HD.out; simp [dcWalk] at h_
    | succ f => exact ⟨f, rfl⟩
   (have ht := HD.out);(rw [hf] at ht);(have HG := Aside0.mk hf);(obtain ⟨v, hv⟩ : ∃ v : Nat, at_ = (v : Int) := ⟨at_.toNat, by have h_ := HFI.out; omega⟩);(subst hv);(have HVM : Aside0 (v < m) := ⟨by have h_ := HW.out.mn; have h2_ := HFI.out; omega⟩);(have hel := List.getElem?_eq_getElem (l := ts) (i := v) (by rw [HW.out.tsl]; exact HVM.out));(obtain ⟨x, hx⟩ : ∃ x, ts[v]'(by rw [HW.out.tsl]; exact HVM.out) = x := ⟨_, rfl⟩);(rw [hx] at hel);(rw [dcWalk, Int.toNat_natCast, List.getD_eq_getElem?_getD, hel] at ht);(have HX := Aside0.mk hel);(have HXT := Aside0.mk (HW.out.tin v x hel));(clear hf hx hel HD);(obtain ⟨y, hy⟩ : ∃ y, x.drop (x.findIdx (dcHas left)) = y := ⟨_, rfl⟩)
   cases y with
   | nil =>
    (have ht2 : (match x.drop (x.findIdx (dcHas left)) with | [] => (none : Option (Int × List Int × List (List Int))) | _ :: _ => _) = some (kind, xs2, ts2) := ht);(rw [hy] at ht2);(cases ht2)
   | cons a rest =>
    (have HD2 := Aside0.mk hy);(have ht2 : (match x.drop (x.findIdx (dcHas left)) with | [] => (none : Option (Int × List Int × List (List Int))) | a :: rest => if xs.length ≤ 1000000 then (if (rd_T30 l a).f1 = fn_ then some (kd, xs ++ [a], ts.set v (a :: rest)) else if met.findIdx (fun v => decide (v = (rd_T30 l a).f1)) < met.length then some (99, (xs ++ [a]).drop (met.findIdx (fun v => decide (v = (rd_T30 l a).f1))), ts.set v (a :: rest)) else dcWalk l left fn_ kd f (ts.set v (a :: rest)) (rd_T30 l a).f1 (xs ++ [a]) (met ++ [(rd_T30 l a).f1])) else none) = some (kind, xs2, ts2) := ht);(rw [hy] at ht2);(have ht3 : (if xs.length ≤ 1000000 then (if (rd_T30 l a).f1 = fn_ then some (kd, xs ++ [a], ts.set v (a :: rest)) else if met.findIdx (fun v => decide (v = (rd_T30 l a).f1)) < met.length then some (99, (xs ++ [a]).drop (met.findIdx (fun v => decide (v = (rd_T30 l a).f1))), ts.set v (a :: rest)) else dcWalk l left fn_ kd f (ts.set v (a :: rest)) (rd_T30 l a).f1 (xs ++ [a]) (met ++ [(rd_T30 l a).f1])) else none) = some (kind, xs2, ts2) := ht2);(have hain : a ∈ x := List.mem_of_mem_drop (by rw [hy]; exact List.mem_cons_self));(have hab := HXT.out.2 a hain);(have HW2 := Aside0.mk (HW.out.drop (x.findIdx (dcHas left)) HX.out));(rw [hy] at HW2);(clear ht ht2 hain hy HW);(obtain ⟨a', ha⟩ : ∃ a' : Nat, a = (a' : Int) := ⟨a.toNat, by omega⟩);(subst ha);(have hal : (a' : Int) < (l.length : Int) := by have h_ := HFF.out; omega);(have ha0 : (0 : Int) ≤ (a' : Int) := by omega);(have HF0 := Aside0.mk (HFA.out a' (by omega)));(generalize hu1 : (rd_T30 l (a' : Int)).f1 = u1_ at ht3 HF0);(have HF1 := Aside0.mk hu1);(obtain ⟨Ax, cx, ex⟩ := Kd.R_slice HI.out.xr);(subst ex)
    by_cases q0 : xs.length ≤ 1000000
    ·(rw [if_pos q0] at ht3);(have HQL := Aside0.mk q0);(clear hu1 hab q0);(obtain ⟨Am, cm, em⟩ := Kd.R_slice HI.out.mr);(subst em)
     by_cases q1 : u1_ = fn_
     ·(rw [if_pos q1] at ht3);(simp only [Option.some.injEq, Prod.mk.injEq] at ht3);(obtain ⟨rfl, rfl, rfl⟩ := ht3);(have hz2 : (u1_ == fn_) = true := by simp [q1]);(have hcaw : wr.cell? ⟨ga, 0, none⟩ = some (.int .i64 (v : Int)) := (blk_cell HI.out.ab.2 0).trans rfl);(clear q1)
      go_wp2_with (first
       | (go_at_call 33; refine (dcNext_calls v HVM.out x HX.out HXT.out.1 HXT.out.2 (a' : Int) rest HD2.out HI.out.dl).mono ?_; rintro e w6 ⟨rfl, hd6, hs6, hz6⟩; have HI6 := Aside0.mk (HI.out.dstep hd6 hs6 hz6); clear hd6 hs6 hz6 HI; have hcx : w6.cell? ⟨gx, 1, none⟩ = some (.slice Ax xs.length cx) := (blk_cell HI6.out.xb.2 1).trans rfl)
       | ((with_reducible refine gate_builtin (b := .append) (xs := #[.tmp 62, .tmp 64]) rfl ?_); at_builtin; refine Kd.R_append (Kd.int .i64) (w0 := w0) w0.heap.size rfl (.tmp 62) (.tmp 64) 22 3 (.int .i64 0) 8 rfl Try.underlying22 info3 rfl (by decide) (by omega) (.slice Ax xs.length cx) xs (a' : Int) [.int .i64 (a' : Int)] (fun k_ => (own1 k_ = 3 ∧ w.heap.size ≤ k_) ∨ w6.heap.size ≤ k_) (fun _ => False) rfl (by first | (go_simp; done) | (go_simp; rfl)) ?aP (fun _ hk => hk.elim) ?aF ?aO ?aB ?aS ?aL ?_; (case aP => exact rfl); (case aF => exact (fun _ h_ => .inr h_)); (case aO => exact Kd.R_mono HI6.out.xr (fun _ h_ => .inl h_)); (case aB => exact HI6.out.dl.below); (case aS => exact below_size HI6.out.dl.below); (case aL => have h1_ := HQL.out; omega); intro u1 w7 ho hb7 hg hat; obtain ⟨Au, cu, eu⟩ := Kd.R_slice ho; have hpu := HI6.out.push hg ho hb7; subst eu; have elen : (xs ++ [(a' : Int)]).length = xs.length + 1 := (by simp); rw [elen] at hpu; obtain ⟨⟨hc7, hf7⟩, hi7⟩ := hpu; have HI7 := Aside0.mk hi7; clear ho hb7 hg hat hi7 elen HI6 hcx)
       | ((with_reducible refine gate_store (t := 22) (p := 66) rfl ?_); refine store_event (t := 22) (p := 66) (v := ?va) (w1 := (w7.setCell ⟨gx, 1, none⟩ (.slice Au (xs.length + 1) cu))) ?hg ?ho ?hn ?hr ?_; (case ho => rfl); (case hg => rfl); (case hn => rfl); (case hr => first | (go_simp; done) | (go_simp; rfl)); intro w8 hw; have hi8 := HI7.out; rw [← hw] at hi8; clear hw hc7 hf7 HI7; have HI8 := Aside0.mk hi8; clear hi8; have h3 := HI8.out.dl.g3; obtain ⟨ad2, ea2, hx0, hx1, hx2⟩ := at_T30 (Kd.C_below HRR.out HI8.out.dl.below) (a' : Int) ha0 hal; cases ea2; rw [Int.toNat_natCast] at hx1; rw [HF1.out] at hx1; clear hx0 hx2; have hca : w8.cell? ⟨ga, 0, none⟩ = some (.int .i64 (v : Int)) := (blk_cell HI8.out.ab.2 0).trans rfl; have hfa : w8.frozen? ⟨ga, 0, none⟩ = false := blk_frozen HI8.out.ab.2 0)
       | ((with_reducible refine gate_store (t := 3) (p := 4) rfl ?_); refine store_event (t := 3) (p := 4) (v := ?vb) (w1 := (w8.setCell ⟨ga, 0, none⟩ (.int .i64 u1_))) ?ig ?io ?in_ ?ir ?_; (case io => rfl); (case ig => rfl); (case in_ => rfl); (case ir => first | (go_simp; done) | (go_simp; rfl)); intro w9 hw; have hi9 := HI8.out.goTo u1_; rw [← hw] at hi9; clear hw hca hfa h3 hx1 HI8; have HI9 := Aside0.mk hi9; clear hi9; have hca : w9.cell? ⟨ga, 0, none⟩ = some (.int .i64 u1_) := (blk_cell HI9.out.ab.2 0).trans rfl; have hx0 : w9.cell? ⟨gx, 0, none⟩ = some (.int .u8 kd) := (blk_cell HI9.out.xb.2 0).trans rfl; have hx1 : w9.cell? ⟨gx, 1, none⟩ = some (.slice Au (xs.length + 1) cu) := (blk_cell HI9.out.xb.2 1).trans rfl; have hx2 : w9.cell? ⟨gx, 2, none⟩ = some (.int .i64 0) := (blk_cell HI9.out.xb.2 2).trans rfl; have hr0 : w9.cell? ⟨gr, 0, none⟩ = some (.int .u8 0) := (blk_cell HI9.out.rb.2 0).trans rfl; have hr1 : w9.cell? ⟨gr, 1, none⟩ = some (.slice none 0 0) := (blk_cell HI9.out.rb.2 1).trans rfl; have hr2 : w9.cell? ⟨gr, 2, none⟩ = some (.int .i64 0) := (blk_cell HI9.out.rb.2 2).trans rfl; have hf0 : w9.frozen? ⟨gr, 0, none⟩ = false := blk_frozen HI9.out.rb.2 0; have hf1 : w9.frozen? ⟨gr, 1, none⟩ = false := blk_frozen HI9.out.rb.2 1; have hf2 : w9.frozen? ⟨gr, 2, none⟩ = false := blk_frozen HI9.out.rb.2 2))
      (obtain ⟨hb9, hd9, hs9, hr9⟩ := HI9.out.ret (x := .int .u8 kd) HI9.out.xr);(refine bodyPost_ret (results_cell_row rfl _ _ gr 36 #[.int .u8 kd, .slice Au (xs.length + 1) cu, .int .i64 0] (0, 0) _ rfl hb9 Try.underlying36 rfl (by kernel_rfl)) rfl ?_);(exact ⟨_, rfl, _, hd9, HW2.out, hs9.1, hs9.2, hr9⟩)
     ·(rw [if_neg q1] at ht3);(have hz2 : (u1_ == fn_) = false := by simp [q1]);(have hcaw : wr.cell? ⟨ga, 0, none⟩ = some (.int .i64 (v : Int)) := (blk_cell HI.out.ab.2 0).trans rfl);(obtain ⟨j, hj⟩ : ∃ j, met.findIdx (fun v_ => decide (v_ = u1_)) = j := ⟨_, rfl⟩);(rw [hj] at ht3);(have HJ := Aside0.mk hj);(clear hj q1)
      by_cases q2 : j < met.length
      ·(rw [if_pos q2] at ht3);(simp only [Option.some.injEq, Prod.mk.injEq] at ht3);(obtain ⟨rfl, rfl, rfl⟩ := ht3);(have hj2 : (j : Int) < (met.length : Int) := by omega);(have HJ2 := Aside0.mk q2);(clear q2)
       go_wp2_with (first
       | (go_at_call 33; refine (dcNext_calls v HVM.out x HX.out HXT.out.1 HXT.out.2 (a' : Int) rest HD2.out HI.out.dl).mono ?_; rintro e w6 ⟨rfl, hd6, hs6, hz6⟩; have HI6 := Aside0.mk (HI.out.dstep hd6 hs6 hz6); clear hd6 hs6 hz6 HI; have hcx : w6.cell? ⟨gx, 1, none⟩ = some (.slice Ax xs.length cx) := (blk_cell HI6.out.xb.2 1).trans rfl)
       | ((with_reducible refine gate_builtin (b := .append) (xs := #[.tmp 62, .tmp 64]) rfl ?_); at_builtin; refine Kd.R_append (Kd.int .i64) (w0 := w0) w0.heap.size rfl (.tmp 62) (.tmp 64) 22 3 (.int .i64 0) 8 rfl Try.underlying22 info3 rfl (by decide) (by omega) (.slice Ax xs.length cx) xs (a' : Int) [.int .i64 (a' : Int)] (fun k_ => (own1 k_ = 3 ∧ w.heap.size ≤ k_) ∨ w6.heap.size ≤ k_) (fun _ => False) rfl (by first | (go_simp; done) | (go_simp; rfl)) ?aP (fun _ hk => hk.elim) ?aF ?aO ?aB ?aS ?aL ?_; (case aP => exact rfl); (case aF => exact (fun _ h_ => .inr h_)); (case aO => exact Kd.R_mono HI6.out.xr (fun _ h_ => .inl h_)); (case aB => exact HI6.out.dl.below); (case aS => exact below_size HI6.out.dl.below); (case aL => have h1_ := HQL.out; omega); intro u1 w7 ho hb7 hg hat; obtain ⟨Au, cu, eu⟩ := Kd.R_slice ho; have hpu := HI6.out.push hg ho hb7; subst eu; have elen : (xs ++ [(a' : Int)]).length = xs.length + 1 := (by simp); rw [elen] at hpu; obtain ⟨⟨hc7, hf7⟩, hi7⟩ := hpu; have HI7 := Aside0.mk hi7; clear ho hb7 hg hat hi7 elen HI6 hcx)
       | ((with_reducible refine gate_store (t := 22) (p := 66) rfl ?_); refine store_event (t := 22) (p := 66) (v := ?va) (w1 := (w7.setCell ⟨gx, 1, none⟩ (.slice Au (xs.length + 1) cu))) ?hg ?ho ?hn ?hr ?_; (case ho => rfl); (case hg => rfl); (case hn => rfl); (case hr => first | (go_simp; done) | (go_simp; rfl)); intro w8 hw; have hi8 := HI7.out; rw [← hw] at hi8; clear hw hc7 hf7 HI7; have HI8 := Aside0.mk hi8; clear hi8; have h3 := HI8.out.dl.g3; obtain ⟨ad2, ea2, hx0, hx1, hx2⟩ := at_T30 (Kd.C_below HRR.out HI8.out.dl.below) (a' : Int) ha0 hal; cases ea2; rw [Int.toNat_natCast] at hx1; rw [HF1.out] at hx1; clear hx0 hx2; have hca : w8.cell? ⟨ga, 0, none⟩ = some (.int .i64 (v : Int)) := (blk_cell HI8.out.ab.2 0).trans rfl; have hfa : w8.frozen? ⟨ga, 0, none⟩ = false := blk_frozen HI8.out.ab.2 0)
       | ((with_reducible refine gate_store (t := 3) (p := 4) rfl ?_); refine store_event (t := 3) (p := 4) (v := ?vb) (w1 := (w8.setCell ⟨ga, 0, none⟩ (.int .i64 u1_))) ?ig ?io ?in_ ?ir ?_; (case io => rfl); (case ig => rfl); (case in_ => rfl); (case ir => first | (go_simp; done) | (go_simp; rfl)); intro w9 hw; have hi9 := HI8.out.goTo u1_; rw [← hw] at hi9; clear hw hca hfa h3 hx1 HI8; have HI9 := Aside0.mk hi9; clear hi9; have hca : w9.cell? ⟨ga, 0, none⟩ = some (.int .i64 u1_) := (blk_cell HI9.out.ab.2 0).trans rfl))
       refine (dcPlaceI_calls (gb := ga) (fun v_ => decide (v_ = u1_)) (Kd.R_reads' HI9.out.mr).2.2 ?p1 ?p2).mono ?_
       (case p1 => have h1_ := HLEN.out; omega)
       (case p2 => exact fun x_ _ => dcIs_calls x_ u1_ hca)
       (rw [HJ.out]);(rintro e w10 ⟨rfl, rfl⟩);(have hx1 : w9.cell? ⟨gx, 1, none⟩ = some (.slice Au (xs.length + 1) cu) := (blk_cell HI9.out.xb.2 1).trans rfl);(have HLL := Aside0.mk (Kd.R_reads' HI9.out.xr));(have hcuj : ¬ cu = j := (by have h1_ := HLEN.out.1; have h2_ := HJ2.out; have h3_ := HLL.out.2.1; omega));(have hj3 : (j : Int) ≤ ((xs.length + 1 : Nat) : Int) := (by have h1_ := HLEN.out.1; have h2_ := HJ2.out; omega));(have hj4 : ((xs.length + 1 : Nat) : Int) ≤ (cu : Int) := (by have h3_ := HLL.out.2.1; omega));(have hj0 : (0 : Int) ≤ (j : Int) := (by omega));(have HCL := Aside0.mk (dcCloneCut (ys := (xs ++ [(a' : Int)])) (n := xs.length + 1) (j := j) (by simp) HI9.out.xr (by have h1_ := HLEN.out.1; have h2_ := HJ2.out; omega) (by have h1_ := HLEN.out.2; omega)))
       go_wp2_with (first
        | (go_at_call 36; refine HCL.out.mono ?_; rintro e w11 ⟨u11, rfl, ho, hb⟩; obtain ⟨A11, c11, e11⟩ := Kd.R_slice ho; obtain ⟨hi11, ht11⟩ := HI9.out.told hb ho; subst e11; have HI11 := Aside0.mk hi11; have HT11 := Aside0.mk ht11; clear ho hb hi11 ht11 HI9 HCL hca hx1; have hr0 : w11.cell? ⟨gr, 0, none⟩ = some (.int .u8 0) := (blk_cell HI11.out.rb.2 0).trans rfl; have hr1 : w11.cell? ⟨gr, 1, none⟩ = some (.slice none 0 0) := (blk_cell HI11.out.rb.2 1).trans rfl; have hr2 : w11.cell? ⟨gr, 2, none⟩ = some (.int .i64 0) := (blk_cell HI11.out.rb.2 2).trans rfl; have hf0 : w11.frozen? ⟨gr, 0, none⟩ = false := blk_frozen HI11.out.rb.2 0; have hf1 : w11.frozen? ⟨gr, 1, none⟩ = false := blk_frozen HI11.out.rb.2 1; have hf2 : w11.frozen? ⟨gr, 2, none⟩ = false := blk_frozen HI11.out.rb.2 2))
       (obtain ⟨hb9, hd9, hs9, hr9⟩ := HI11.out.ret (x := .int .u8 99) HT11.out);(have hlen : (List.drop j (xs ++ [(a' : Int)])).length = xs.length + 1 - j := by simp);(rw [hlen] at hb9 hd9 hs9 hr9);(refine bodyPost_ret (results_cell_row rfl _ _ gr 36 #[.int .u8 99, .slice A11 (xs.length + 1 - j) c11, .int .i64 0] (0, 0) _ rfl hb9 Try.underlying36 rfl (by kernel_rfl)) rfl ?_);(exact ⟨_, rfl, _, hd9, HW2.out, hs9.1, hs9.2, hr9⟩)
      ·(rw [if_neg q2] at ht3);(have HT3 := Aside0.mk ht3);(have hj2 : ¬ (j : Int) < (met.length : Int) := by omega);(clear q2 ht3)
       go_wp2_with (first
       | (go_at_call 33; refine (dcNext_calls v HVM.out x HX.out HXT.out.1 HXT.out.2 (a' : Int) rest HD2.out HI.out.dl).mono ?_; rintro e w6 ⟨rfl, hd6, hs6, hz6⟩; have HI6 := Aside0.mk (HI.out.dstep hd6 hs6 hz6); clear hd6 hs6 hz6 HI; have hcx : w6.cell? ⟨gx, 1, none⟩ = some (.slice Ax xs.length cx) := (blk_cell HI6.out.xb.2 1).trans rfl)
       | ((with_reducible refine gate_builtin (b := .append) (xs := #[.tmp 62, .tmp 64]) rfl ?_); at_builtin; refine Kd.R_append (Kd.int .i64) (w0 := w0) w0.heap.size rfl (.tmp 62) (.tmp 64) 22 3 (.int .i64 0) 8 rfl Try.underlying22 info3 rfl (by decide) (by omega) (.slice Ax xs.length cx) xs (a' : Int) [.int .i64 (a' : Int)] (fun k_ => (own1 k_ = 3 ∧ w.heap.size ≤ k_) ∨ w6.heap.size ≤ k_) (fun _ => False) rfl (by first | (go_simp; done) | (go_simp; rfl)) ?aP (fun _ hk => hk.elim) ?aF ?aO ?aB ?aS ?aL ?_; (case aP => exact rfl); (case aF => exact (fun _ h_ => .inr h_)); (case aO => exact Kd.R_mono HI6.out.xr (fun _ h_ => .inl h_)); (case aB => exact HI6.out.dl.below); (case aS => exact below_size HI6.out.dl.below); (case aL => have h1_ := HQL.out; omega); intro u1 w7 ho hb7 hg hat; obtain ⟨Au, cu, eu⟩ := Kd.R_slice ho; have hpu := HI6.out.push hg ho hb7; subst eu; have elen : (xs ++ [(a' : Int)]).length = xs.length + 1 := (by simp); rw [elen] at hpu; obtain ⟨⟨hc7, hf7⟩, hi7⟩ := hpu; have HI7 := Aside0.mk hi7; clear ho hb7 hg hat hi7 elen HI6 hcx)
       | ((with_reducible refine gate_store (t := 22) (p := 66) rfl ?_); refine store_event (t := 22) (p := 66) (v := ?va) (w1 := (w7.setCell ⟨gx, 1, none⟩ (.slice Au (xs.length + 1) cu))) ?hg ?ho ?hn ?hr ?_; (case ho => rfl); (case hg => rfl); (case hn => rfl); (case hr => first | (go_simp; done) | (go_simp; rfl)); intro w8 hw; have hi8 := HI7.out; rw [← hw] at hi8; clear hw hc7 hf7 HI7; have HI8 := Aside0.mk hi8; clear hi8; have h3 := HI8.out.dl.g3; obtain ⟨ad2, ea2, hx0, hx1, hx2⟩ := at_T30 (Kd.C_below HRR.out HI8.out.dl.below) (a' : Int) ha0 hal; cases ea2; rw [Int.toNat_natCast] at hx1; rw [HF1.out] at hx1; clear hx0 hx2; have hca : w8.cell? ⟨ga, 0, none⟩ = some (.int .i64 (v : Int)) := (blk_cell HI8.out.ab.2 0).trans rfl; have hfa : w8.frozen? ⟨ga, 0, none⟩ = false := blk_frozen HI8.out.ab.2 0)
       | ((with_reducible refine gate_store (t := 3) (p := 4) rfl ?_); refine store_event (t := 3) (p := 4) (v := ?vb) (w1 := (w8.setCell ⟨ga, 0, none⟩ (.int .i64 u1_))) ?ig ?io ?in_ ?ir ?_; (case io => rfl); (case ig => rfl); (case in_ => rfl); (case ir => first | (go_simp; done) | (go_simp; rfl)); intro w9 hw; have hi9 := HI8.out.goTo u1_; rw [← hw] at hi9; clear hw hca hfa h3 hx1 HI8; have HI9 := Aside0.mk hi9; clear hi9; have hca : w9.cell? ⟨ga, 0, none⟩ = some (.int .i64 u1_) := (blk_cell HI9.out.ab.2 0).trans rfl)
       | (go_at_call 34; refine (dcPlaceI_calls (gb := ga) (fun v_ => decide (v_ = u1_)) (Kd.R_reads' HI9.out.mr).2.2 ?p1 ?p2).mono ?_; (case p1 => have h1_ := HLEN.out; omega); (case p2 => exact fun x_ _ => dcIs_calls x_ u1_ hca); rw [HJ.out]; rintro e w10 ⟨rfl, rfl⟩)
       | ((with_reducible refine gate_builtin (b := .append) (xs := #[.tmp 93, .tmp 95]) rfl ?_); at_builtin; refine Kd.R_append (Kd.int .i64) (w0 := w0) w0.heap.size rfl (.tmp 93) (.tmp 95) 22 3 (.int .i64 0) 8 rfl Try.underlying22 info3 rfl (by decide) (by omega) (.slice Am met.length cm) met u1_ [.int .i64 u1_] (fun k_ => (more own1 w6 3 k_ = 2 ∧ w.heap.size ≤ k_) ∨ w9.heap.size ≤ k_) (fun _ => False) rfl (by first | (go_simp; done) | (go_simp; rfl)) ?bP (fun _ hk => hk.elim) ?bF ?bO ?bB ?bS ?bL ?_; (case bP => exact rfl); (case bF => exact (fun _ h_ => .inr h_)); (case bO => exact Kd.R_mono HI9.out.mr (fun _ h_ => .inl h_)); (case bB => exact HI9.out.dl.below); (case bS => exact below_size HI9.out.dl.below); (case bL => have h1_ := HLEN.out; omega); intro um wm ho hbm hg hat; have hi10 := HI9.out.meet hg ho hbm; have HI10 := Aside0.mk hi10; clear ho hbm hg hat hi10 HI9 hca))
       go_roundg f
       case measure => have h_ := HG.out; omega
       case rel => exact ⟨_, _, u1_, _, _, _, _, rfl, HI10, HT3, HW2, ⟨by have h_ := HF0.out; omega⟩, ⟨by have h1_ := HLEN.out; have h2_ := HQL.out; rw [List.length_append, List.length_append, List.length_singleton, List.length_singleton]; omega⟩⟩
    ·(rw [if_neg q0] at ht3);(cases ht3)
end Go.Proofs.Ytnjdjnoncoeffaa.PDecompTwice
