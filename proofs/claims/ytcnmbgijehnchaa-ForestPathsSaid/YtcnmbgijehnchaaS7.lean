/- splay: slices.Backward over a path: its contract (by hand); a forest told without a ghost. -/
import Derived.RangeFuncNested
import Derived.RangeFuncBound
import Derived.RangeFuncCalls
import Derived.RangeFuncLeaves
import Derived.Shelf.Abstract
import Derived.Shelf.RegionOpen
import Derived.WalkKit
import Derived.OwnWalkIn
import Derived.TacticsInMore
import Derived.LoopNIn
import Derived.LoopIn
import Derived.Test.YtcnmbgijehnchaaS5
import Derived.Test.YtcnmbgijehnchaaS6
set_option linter.unusedVariables false
set_option linter.unusedSimpArgs false
namespace Go.Proofs.YtcnmbgijehnchaaW.Splay
open Go.RowKit Go.Shelf Go.Proofs.YtcnmbgijehnchaaW.PrintWords Go.Proofs.YtcnmbgijehnchaaW.PrintLast Go.Proofs.YtcnmbgijehnchaaW.PrintMore Go.Proofs.YtcnmbgijehnchaaW.Mine
attribute [local go_sem] Oper.semAt_some
/-- The ghost of owners that names a forest's two blocks alone. -/
def og (gs gn : Nat) : Nat → Nat := fun k => if k = gs then 21 else if k = gn then 22 else 0
/-- All blocks but the two lie as they lay. -/
structure Ke (gs gn : Nat) (W W1 : World) : Prop where
  size : W.heap.size ≤ W1.heap.size
  heap : ∀ k, k < W.heap.size → k ≠ gs → k ≠ gn → W1.heap[k]? = W.heap[k]?
section
variable {gs gn : Nat} {W W1 W2 : World}
theorem og_not {k : Nat} (h1 : k ≠ gs) (h2 : k ≠ gn) : ¬ SpT (og gs gn k) := by
  unfold SpT og
  rw [if_neg h1, if_neg h2]
  decide
theorem Ke.refl (W : World) : Ke gs gn W W := ⟨Nat.le_refl _, fun _ _ _ _ => rfl⟩
theorem Ke.trans (h : Ke gs gn W W1) (k : Ke gs gn W1 W2) : Ke gs gn W W2 := ⟨Nat.le_trans h.size k.size, fun j hj h1 h2 => (k.heap j (Nat.lt_of_lt_of_le hj h.size) h1 h2).trans (h.heap j hj h1 h2)⟩
theorem Ke.of (h : Stay (og gs gn) (og gs gn) SpT W W1) (hs : W.heap.size ≤ W1.heap.size) : Ke gs gn W W1 := ⟨hs, fun k hk h1 h2 => h.heap k hk (og_not h1 h2)⟩
theorem Ke.stay (h : Ke gs gn W W1) : Stay (og gs gn) (og gs gn) SpT W W1 := ⟨fun k hk hT => h.heap k hk (fun e => hT (by subst e; unfold SpT og; simp)) (fun e => hT (by
  subst e
  unfold SpT og
  by_cases c : k = gs
  · simp [c]
  · simp [c])), fun _ _ => rfl⟩
theorem Ke.below (h : Below W.heap.size W W1) : Ke gs gn W W1 := ⟨h.size, fun k hk _ _ => h.block k hk⟩
end
/-- What the range over a path wants kept. -/
structure Kf (Bs b : Nat) (W W1 : World) : Prop where
  size : W.heap.size ≤ W1.heap.size
  box : W1.heap[Bs]? = W.heap[Bs]?
  row : W1.heap[b]? = W.heap[b]?
theorem Kf.trans {Bs b : Nat} {X Y Z : World} (h : Kf Bs b X Y) (k : Kf Bs b Y Z) : Kf Bs b X Z := ⟨Nat.le_trans h.size k.size, k.box.trans h.box, k.row.trans h.row⟩
theorem Kf.refl {Bs b : Nat} (X : World) : Kf Bs b X X := ⟨Nat.le_refl _, rfl, rfl⟩
theorem cell_of_heap {W W1 : World} {b j : Nat} (h : W1.heap[b]? = W.heap[b]?) : W1.cell? ⟨b, j, none⟩ = W.cell? ⟨b, j, none⟩ := by simp [World.cell?, h]
set_option maxRecDepth 100000 in
set_option maxHeartbeats 2000000 in
/-- slices.Backward's closure. -/
theorem back1_in (F : Fence) (n : Nat) (h60 : F.fn 60) (hro : F.round = none) (hn : 1 ≤ n) (l Bs b cap N : Nat) (zs : List (Fin N)) (hreach : zs.length * 8 ≤ 140737488351232) (J Jx : List (Nat × Fin N) → World → Prop)
    (hY : ∀ pre x W, J pre W → pre.length < zs.length → YieldAt F (n - 1) Try.prog l #[.int .i64 (x.1 : Int), .int .i64 (x.2.val : Int)] W fun e W' =>
      (e = .returned (.bool true) ∧ J (pre ++ [x]) W' ∧ Kf Bs b W W') ∨ (e = .returned (.bool false) ∧ Jx (pre ++ [x]) W'))
    (W : World) (hBs : W.cell? ⟨Bs, 0, none⟩ = some (.slice (some ⟨b, 0, none⟩) zs.length cap)) (hc : ∀ j (h : j < zs.length), W.cell? ⟨b, j, none⟩ = some (.int .i64 (zs[j].val : Int))) (h0 : J [] W) :
    CallsIn F n Try.prog 60 #[.func (.yield l) #[] #[], .pointer (some ⟨Bs, 0, none⟩)] W fun e W' => (∃ v, e = .returned v) ∧
      ((∃ ys, ys.map Prod.snd = zs.reverse ∧ J ys W') ∨ (∃ pre, True ∧ Jx pre W')) := by
  refine callsIn_of_wp Try.func60 rfl h60 ?_ hro
  simp only [Try.ntmps60, List.size_toArray, List.length_cons, List.length_nil, Nat.reduceAdd, Nat.reduceSub, Array.replicate_succ, Array.replicate_zero, List.push_toArray, List.append_toArray, List.nil_append, List.cons_append]
  have hw1 : wrap64 ((zs.length : Int) - 1) = (zs.length : Int) - 1 := by unfold wrap64; omega
  gi_wp2
  gi_loopw [3] (fun i wr => ∃ (m : Nat) (pre : List (Nat × Fin N)), i = .int .i64 ((m : Int) - 1) ∧ m ≤ zs.length ∧ pre.map Prod.snd = zs.reverse.take (zs.length - m) ∧ J pre wr ∧ Kf Bs b W wr)
    (fun i _ => (intOf i + 1).toNat)
  case atStart => exact ⟨zs.length, [], by first | rfl | simp, Nat.le_refl _, by simp, h0, Kf.refl _⟩
  case round =>
    obtain ⟨m, pre, rfl, hm, hp, hJs, hk⟩ := hrel
    have hbx := (cell_of_heap (j := 0) hk.box).trans hBs
    cases m with
    | zero =>
      have e0 : ((0 : Nat) : Int) - 1 = -1 := rfl
      rw [e0]
      gi_wp2
      go_end0
      exact ⟨⟨_, rfl⟩, .inl ⟨pre, by rw [hp, Nat.sub_zero, ← List.length_reverse, List.take_length], hJs⟩⟩
    | succ m =>
      have e1 : ((m + 1 : Nat) : Int) - 1 = (m : Int) := by omega
      rw [e1]
      have hx := (cell_of_heap (j := m) hk.row).trans (hc m (by omega))
      obtain ⟨x, hxe⟩ : ∃ x, zs[m] = x := ⟨_, rfl⟩
      rw [hxe] at hx
      have hlen : pre.length < zs.length := by
        have := congrArg List.length hp
        simp at this
        omega
      obtain ⟨fn, tmps, assign, body, hy, hR⟩ := hY pre (m, x) wr hJs hlen
      dsimp only at hy
      have hm0 : (0 : Int) ≤ (m : Int) := by omega
      have hm1 : (m : Int) < (zs.length : Int) := by omega
      have hw2 : wrap64 ((m : Int) - 1) = (m : Int) - 1 := by unfold wrap64; omega
      gi_wp2
      refine hR.mono ?_
      rintro e W3 (⟨rfl, hJ3, hk3⟩ | ⟨rfl, hJx3⟩)
      · gi_wp2
        go_roundw
        case rel =>
          refine ⟨m, pre ++ [(m, x)], by first | rfl | simp, by omega, ?_, hJ3, hk.trans hk3⟩
          rw [List.map_append, hp, show zs.length - m = (zs.length - (m + 1)) + 1 by omega, List.take_add_one]
          have e2 : zs.reverse[zs.length - (m + 1)]? = some x := by
            rw [List.getElem?_reverse (by omega), show zs.length - 1 - (zs.length - (m + 1)) = m by omega, List.getElem?_eq_getElem (by omega), hxe]
          rw [e2]
          rfl
        case measure => simp [intOf]
      · gi_wp2
        refine bodyPost_ret (results_none rfl _ _ _) rfl ?_
        exact ⟨⟨_, rfl⟩, .inr ⟨_, trivial, hJx3⟩⟩
set_option maxHeartbeats 1000000 in
/-- slices.Backward. -/
theorem back_calls (a : Option Addr) (len cap : Nat) (w : World) :
    Calls Try.prog 53 #[.slice a len cap] w fun e w' => e = .returned (.func (.func 60) #[] #[.pointer (some ⟨w.heap.size, 0, none⟩)]) ∧ w' = w.alloc (.cells #[.slice a len cap] 22) := by
  go_enter Try.func53, Try.ntmps53
  go_wp2
  go_ret
  exact ⟨rfl, rfl⟩
theorem back_stops (F : Fence) (n : Nat) (h60 : F.fn 60) (hro : F.round = none) (hn : 1 ≤ n) (Bs b cap N : Nat) (zs : List (Fin N)) (hreach : zs.length * 8 ≤ 140737488351232) (w : World) (hBs : Bs < w.heap.size) (hb : b < w.heap.size)
    (hcB : w.cell? ⟨Bs, 0, none⟩ = some (.slice (some ⟨b, 0, none⟩) zs.length cap)) (hc : ∀ j (h : j < zs.length), w.cell? ⟨b, j, none⟩ = some (.int .i64 (zs[j].val : Int))) :
    SeqStopsK F n Try.prog 60 #[.pointer (some ⟨Bs, 0, none⟩)] (fun x : Nat × Fin N => #[Value.int .i64 (x.1 : Int), Value.int .i64 (x.2.val : Int)]) (Kf Bs b) (fun ys => ys.map Prod.snd = zs.reverse) (fun _ => True) zs.length w := fun l J Jx W hW _ _ hY h0 =>
  back1_in F n h60 hro hn l Bs b cap N zs hreach J Jx hY W ((hW.cell (p := ⟨Bs, 0, none⟩) hBs).trans hcB) (fun j h => (hW.cell (p := ⟨b, j, none⟩) hb).trans (hc j h)) h0
end Go.Proofs.YtcnmbgijehnchaaW.Splay
