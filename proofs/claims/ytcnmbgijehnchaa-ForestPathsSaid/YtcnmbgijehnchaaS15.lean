/- splay: a range over an iterator that keeps a row of its own in cells: a law for it (by hand, over the kit's base law). -/
import Derived.RangeFuncNested
import Derived.RangeFuncBound
import Derived.RangeFuncCalls
import Derived.RangeFuncLeaves
import Derived.Shelf.Abstract
import Derived.Shelf.RegionOpen
import Derived.WalkKit
import Derived.OwnWalkIn
import Derived.TacticsInMore
import Derived.LoopNIn
import Derived.LoopIn
import Derived.Test.YtcnmbgijehnchaaS14
set_option linter.unusedVariables false
set_option linter.unusedSimpArgs false
namespace Go.Proofs.YtcnmbgijehnchaaW.Splay
open Go.RowKit Go.Shelf Go.Proofs.YtcnmbgijehnchaaW.PrintWords Go.Proofs.YtcnmbgijehnchaaW.PrintLast Go.Proofs.YtcnmbgijehnchaaW.PrintMore Go.Proofs.YtcnmbgijehnchaaW.Mine
/-- A loop that a ghost counts down. -/
theorem fuel_loop {F : Fence} {n : Nat} {P : Program} {c : Code} {Q : Exit → Act → World → Prop} (J : Nat → Act → World → Prop)
    (round : ∀ k a w, J k a w → c.wpIn F n P (Exit.then (fun a' w' => ∃ k', k = k' + 1 ∧ J k' a' w') Q) a w) : ∀ k a w, J k a w → Code.roundsIn F n P c Q (k + 1) a w
  | 0, a, w, h => wpIn_mono (round 0 a w h) (fun e a' w' hq => by
    cases e with
    | normal => obtain ⟨k', hk, _⟩ := hq; omega
    | _ => exact hq)
  | k + 1, a, w, h => wpIn_mono (round (k + 1) a w h) (fun e a' w' hq => by
    cases e with
    | normal =>
      obtain ⟨k', hk, hj⟩ := hq
      obtain rfl : k = k' := by omega
      exact fuel_loop J round k a' w' hj
    | _ => exact hq)
/-- What abides whatever an iterator does to blocks of its own, which hold cells of one type. -/
def AbY (B tl : Nat) (J : List Int → World → Prop) : Prop :=
  ∀ s W W' row, J s W → W.grownBy W' row → (∀ r, row = some r → B ≤ r ∧ ∃ cs, W.heap[r]? = some (.cells cs tl (0, 0))) → J s W'
theorem AbY.below {B tl : Nat} {J : List Int → World → Prop} (h : AbY B tl J) {s : List Int} {W W' : World} (hj : J s W) (hb : Below W.heap.size W W') : J s W' :=
  h s W W' none hj ⟨hb.os, hb.tape, hb.output, hb.size, fun k hk _ => hb.block k hk⟩ (fun r e => by cases e)
/-- An iterator that hands over a list, whatever the rounds do. -/
def SeqY (P : Program) (gf : Nat) (lb : Array Value) (Kp : World → World → Prop) (tl : Nat) (L : List Int) (w : World) : Prop :=
  ∀ (l : Nat) (J : List Int → World → Prop) (W : World), Below w.heap.size w W → AbY W.heap.size tl J →
    (∀ pre x W1, J pre W1 → pre.length < L.length → YieldAt Fence.wide 3 P l #[.int .i64 x] W1 fun e W' => e = .returned (.bool true) ∧ J (pre ++ [x]) W' ∧ Kp W1 W') →
    J [] W → CallsIn Fence.wide 4 P gf (#[.func (.yield l) #[] #[]] ++ lb) W fun e W' => (∃ v, e = .returned v) ∧ J L W'
theorem range_y {P : Program} {g : Operand} {ps : Array Tmp} {assign body : Code} {Q : Exit → Act → World → Prop} {a : Act} {w : World} {gf : Nat} {lb : Array Value} {Kp : World → World → Prop} {tl : Nat} {L : List Int}
    (hg : a.eval g = .func (.func gf) #[] lb) (eg : ∀ args w, (callFunc gf args).run P w = .ok (.enter gf args) w) (hseq : SeqY P gf lb Kp tl L w)
    (hKt : ∀ {A B C : World}, Kp A B → Kp B C → Kp A C) (hKb : ∀ (W : World) (l : Nat) (o o' : Obj), w.heap.size ≤ l → W.heap[l]? = some o → o.isCells = false → Kp W (W.putObj l o')) (hps : 1 = ps.size)
    (I : List Int → World → Prop) (hI : OwnFrom w.heap.size I) (hI2 : AbY w.heap.size tl I) (h0 : I [] w) (a₁ : Int → Act)
    (hassign : ∀ (l : Nat) (x : Int) (W : World) (K : Act → World → Prop), K (a₁ x) W →
      assign.wpIn (Fence.wide.inRound l) 3 P (Exit.then K (fun _ _ _ => False)) { tmps := (ps.zip #[Value.int .i64 x]).foldl (fun t (p, v) => t.setIfInBounds p v) a.tmps, defers := [] } W)
    (hbody : ∀ (l : Nat) (pre : List Int) (x : Int) (W : World), I pre W → pre.length < L.length → body.wpIn (Fence.wide.inRound l) 3 P (fun e _ W' => e = .normal ∧ KeepsFrom w.heap.size W W' ∧ Kp W W' ∧ I (pre ++ [x]) W') (a₁ x) W)
    (hdone : ∀ (D : Nat) (W : World), w.heap.size ≤ D → I L W → W.heap[D]? = some (.deferred (some [])) → Q .normal { a with defers := { target := .collected D, args := #[] } :: a.defers } W) :
    (Code.rangeFunc g ps assign body).wpIn Fence.wide 5 P Q a w := by
  refine wpIn_rangeFunc fun fn hfn => ?_
  obtain ⟨rec, hrec⟩ : ∃ rec : LoopState → Loop, rec = fun st => { state := st, pending := none, fn, tmps := a.tmps, params := ps, assign, body, defers := w.heap.size } := ⟨_, rfl⟩
  obtain ⟨W1, hW1⟩ : ∃ W1, (w.alloc (.deferred (some []))).alloc (.loop (rec .ready)) = W1 := ⟨_, rfl⟩
  have hz : W1.heap.size = w.heap.size + 2 := by rw [← hW1]; simp
  have hrl : W1.heap[w.heap.size + 1]? = some (.loop (rec .ready)) := by
    have h_ := World.alloc_heap_new (w.alloc (.deferred (some []))) (.loop (rec .ready))
    rwa [World.size_alloc, hW1] at h_
  have hdf : W1.heap[w.heap.size]? = some (.deferred (some [])) := by
    rw [← hW1]
    exact (Below.heap_alloc _ _ _ (by simp)).trans (World.alloc_heap_new w _)
  have hIW : I [] W1 := by
    rw [← hW1]
    exact hI.alloc _ (hI.alloc _ h0)
  have hbw : Below w.heap.size w W1 := by
    rw [← hW1]
    exact ((Below.refl _ w).alloc (Nat.le_refl _) _).alloc (by simp) _
  refine ⟨w.heap.size + 1, [{ target := .collected w.heap.size, args := #[] }], W1, { target := .fn (.func gf) lb, args := #[.func (.yield (w.heap.size + 1)) #[] #[]] }, W1, gf, #[.func (.yield (w.heap.size + 1)) #[] #[]] ++ lb, W1, ?_, ?_, fun _ _ => trivial, ?_, fun _ => by decide, ?_⟩
  · rw [← hW1, hrec]
    exact run_enterLoop_outer _ _ _ _ _
  · simp only [resolve, hg]
    simp [go_sem]
  · simp [invoke, go_sem, eg]
  · refine (hseq (w.heap.size + 1) (fun pre W => I pre W ∧ W.heap[w.heap.size + 1]? = some (.loop (rec .ready)) ∧ W.heap[w.heap.size]? = some (.deferred (some []))) W1 hbw ?_ ?_ ⟨hIW, hrl, hdf⟩).mono ?_
    · rintro s A B row ⟨h1, h2, h3⟩ hgr hr
      refine ⟨hI2 s A B row h1 hgr (fun r e => ⟨by have h_ := (hr r e).1; omega, (hr r e).2⟩), ?_, ?_⟩
      · rw [hgr.block _ (Array.getElem?_eq_some_iff.1 h2).1 (fun e => by have h_ := (hr _ e.symm).1; omega)]
        exact h2
      · rw [hgr.block _ (Array.getElem?_eq_some_iff.1 h3).1 (fun e => by have h_ := (hr _ e.symm).1; omega)]
        exact h3
    · rintro pre x W ⟨h1, h2, h3⟩ hlen
      have hlt : w.heap.size + 1 < W.heap.size := (Array.getElem?_eq_some_iff.1 h2).1
      have hy := run_yield (P := P) (args := #[Value.int .i64 x]) h2 (by rw [hrec]; exact hps)
      rw [hrec] at hy
      refine ⟨fn, _, assign, body, hy, roundIn_of_wpIn hfn (hassign _ x W _ ⟨_, run_beginRound h2 (by rw [hrec]), ?_⟩)⟩
      obtain ⟨W2, hW2⟩ : ∃ W2, W.putObj (w.heap.size + 1) (.loop { rec .ready with state := .busy }) = W2 := ⟨_, rfl⟩
      rw [hW2]
      have b2 : W2.heap[w.heap.size + 1]? = some (.loop { rec .ready with state := .busy }) := by rw [← hW2]; exact World.putObj_heap_same hlt
      have d2 : W2.heap[w.heap.size]? = some (.deferred (some [])) := by rw [← hW2]; exact (World.putObj_heap_other (by omega)).trans h3
      have i2 : I pre W2 := by rw [← hW2]; exact hI.putObj _ h1 (by omega) h2 rfl
      have k2 : Kp W W2 := by rw [← hW2]; exact hKb _ _ _ _ (by omega) h2 rfl
      refine wpIn_mono (hbody _ pre x W2 i2 hlen) ?_
      rintro e a3 W3 ⟨rfl, hk3, hp3, hi3⟩
      have b3 := hk3.same _ _ (by omega) b2 rfl
      have d3 := hk3.same _ _ (Nat.le_refl _) d2 rfl
      have he := run_endRound (P := P) none b3
      refine ⟨_, _, he, rfl, ⟨hI.putObj _ hi3 (by omega) b3 rfl, ?_, (World.putObj_heap_other (by omega)).trans d3⟩, hKt k2 (hKt hp3 (hKb _ _ _ _ (by omega) b3 rfl))⟩
      rw [World.putObj_heap_same (Array.getElem?_eq_some_iff.1 b3).1, hrec]
      rfl
    · rintro e W2 ⟨⟨v, rfl⟩, h1, h2, h3⟩
      have he := run_endLoop (P := P) h2 (by rw [hrec]; simp)
      exact ⟨_, _, he, by rw [hrec]; exact hdone _ _ (Nat.le_refl _) (hI.putObj _ h1 (by omega) h2 rfl) ((World.putObj_heap_other (by omega)).trans h3)⟩
end Go.Proofs.YtcnmbgijehnchaaW.Splay
