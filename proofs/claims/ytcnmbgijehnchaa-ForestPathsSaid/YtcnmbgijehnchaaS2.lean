/- splay: what is laid on a node, pushed, reckoned, hung (contracts by hand). -/
import Derived.Test.YtcnmbgijehnchaaProg
import Derived.Below
import Derived.Deep.Draws
import Derived.Deep.AppendLies
import Derived.Maps.AppendAt
import Derived.OwnWalk
import Derived.Laws.BytesArg
import Derived.Laws.MakeOwn
import Derived.Laws.OwnMore
import Derived.Deep.OwnRows
import Derived.Tactics
import Derived.Lib.ConvBytes
import Derived.Laws.Slices
import Derived.WalkKit
import Derived.KernelRfl
import Derived.RowKit3
import Derived.Deep.LoopGhost
import Derived.Deep.QuietTactic
import Derived.BigQuiet
import Derived.WideLaws
import Derived.Deep.DeepCutAuto
import Derived.Deep.CutBlock
import Derived.Deep.RegionHeld3
import Derived.Laws.Rows
import Derived.Lib.AppendStr
import Derived.ArgAppend
import Derived.Laws.IdiomCopy
import Derived.OrdersHeld
import Derived.Laws.BitsLemmas
import Derived.RowKit
import Derived.Lib.SliceRun
import Derived.Test.YtcnmbgijehnchaaWOpen
import Derived.Test.YtcnmbgijehnchaaWWords
import Derived.Test.YtcnmbgijehnchaaWLast
import Derived.Test.YtcnmbgijehnchaaWTab
import Derived.Test.YtcnmbgijehnchaaWFour
import Derived.Test.YtcnmbgijehnchaaWQPut
import Derived.Test.YtcnmbgijehnchaaWApart
import Derived.Test.YtcnmbgijehnchaaWArr
import Derived.Test.YtcnmbgijehnchaaWZeros
import Derived.Test.YtcnmbgijehnchaaWFoot
import Derived.Test.YtcnmbgijehnchaaWKept
import Derived.Test.YtcnmbgijehnchaaWShare
import Derived.Test.YtcnmbgijehnchaaWN
import Derived.Test.YtcnmbgijehnchaaWFootNe
import Derived.Test.YtcnmbgijehnchaaWAt
import Derived.Test.YtcnmbgijehnchaaWEqStruct
import Derived.Test.YtcnmbgijehnchaaWRepsOne
import Derived.Test.YtcnmbgijehnchaaWInv
import Derived.Test.YtcnmbgijehnchaaWInvWords
import Derived.Test.YtcnmbgijehnchaaWGuard
import Derived.Test.YtcnmbgijehnchaaWNEv
import Derived.Test.YtcnmbgijehnchaaWMore
import Derived.Test.YtcnmbgijehnchaaS1
set_option linter.unusedVariables false
set_option linter.unusedSimpArgs false
namespace Go.Proofs.YtcnmbgijehnchaaW.Splay
open Go.RowKit Go.Proofs.YtcnmbgijehnchaaW.PrintWords Go.Proofs.YtcnmbgijehnchaaW.PrintLast Go.Proofs.YtcnmbgijehnchaaW.PrintMore Go.Proofs.YtcnmbgijehnchaaW.Mine
attribute [local go_sem] max2_int min2_int max_two min_two max_three min_three max_four min_four
/-- An item, or none. -/
def Ix (N : Nat) (x : Int) : Prop := x = -1 ∨ ∃ i : Nat, i < N ∧ x = (i : Int)
section
variable {tF tN : Nat} {own : Nat → Nat} {w0 W : World} {gs gn N cap : Nat} {s : Fo} {i : Nat}
theorem Sp.lay1 (h : Sp tF tN own w0 W gs gn N cap s) (hi : i < N) (v ls ms a : Int) :
    Sp tF tN own w0 ((((W.setCell ⟨gn, i * 9 + 4, none⟩ (.int .i64 v)).setCell ⟨gn, i * 9 + 5, none⟩ (.int .i64 ls)).setCell ⟨gn, i * 9 + 6, none⟩ (.int .i64 ms)).setCell ⟨gn, i * 9 + 7, none⟩ (.int .i64 a)).drew gs gn N cap (upd s (i : Int) { s (i : Int) with v := v, ls := ls, ms := ms, a := a }) ∧
    Stay own own SpT W ((((W.setCell ⟨gn, i * 9 + 4, none⟩ (.int .i64 v)).setCell ⟨gn, i * 9 + 5, none⟩ (.int .i64 ls)).setCell ⟨gn, i * 9 + 6, none⟩ (.int .i64 ms)).setCell ⟨gn, i * 9 + 7, none⟩ (.int .i64 a)).drew := by
  have k1 := h.p4 hi v
  have k2 := Sp.then_ k1 (by simp) (k1.1.p5 hi ls)
  have k3 := Sp.then_ k2 (by simp) (k2.1.p6 hi ms)
  have k4 := Sp.then_ k3 (by simp) (k3.1.p7 hi a)
  simp only [upd_upd, upd_same] at k4
  exact ⟨k4.1.drew, stay_drew k4.2⟩
theorem Sp.lay2 (h : Sp tF tN own w0 W gs gn N cap s) (hi : i < N) (x y : Int) (t : Bool) :
    Sp tF tN own w0 (((W.setCell ⟨gn, i * 9 + 1, none⟩ (.int .i64 x)).setCell ⟨gn, i * 9 + 1 + 1, none⟩ (.int .i64 y)).setCell ⟨gn, i * 9 + 8, none⟩ (.bool t)).drew gs gn N cap (upd s (i : Int) { s (i : Int) with d0 := x, d1 := y, tn := t }) ∧
    Stay own own SpT W (((W.setCell ⟨gn, i * 9 + 1, none⟩ (.int .i64 x)).setCell ⟨gn, i * 9 + 1 + 1, none⟩ (.int .i64 y)).setCell ⟨gn, i * 9 + 8, none⟩ (.bool t)).drew := by
  have k1 := h.p1 hi x
  have k2 := Sp.then_ k1 (by simp) (k1.1.p2 hi y)
  have k3 := Sp.then_ k2 (by simp) (k2.1.p8 hi t)
  simp only [upd_upd, upd_same] at k3
  exact ⟨k3.1.drew, stay_drew k3.2⟩
end
theorem ix0 (W : World) (a b : Int) : (Instr.index 58 (.agg #[.int .i64 a, .int .i64 b]) (.int .i64 0)).run Try.prog W = .ok (.int .i64 a) W := by first | rfl | kernel_rfl
theorem ix1 (W : World) (a b : Int) : (Instr.index 58 (.agg #[.int .i64 a, .int .i64 b]) (.int .i64 1)).run Try.prog W = .ok (.int .i64 b) W := by first | rfl | kernel_rfl
set_option maxHeartbeats 8000000 in
set_option maxRecDepth 100000 in
theorem lay_calls {own : Nat → Nat} {w0 w : World} {gs gn N cap : Nat} {s : Fo} (h : Sp 57 60 own w0 w gs gn N cap s) (hN : N ≤ 3000) {x : Int} (hx : Ix N x) (a : Int) (t : Bool) :
    Calls Try.prog 47 #[.pointer (some ⟨gs, 0, none⟩), .int .i64 x, .int .i64 a, .bool t] w fun e w' => (∃ v, e = .returned v) ∧ Sp 57 60 own w0 w' gs gn N cap (lay s x a t) ∧ Stay own own SpT w w' ∧ w.heap.size ≤ w'.heap.size := by
  have HS := Aside0.mk h
  clear h
  rcases hx with rfl | ⟨i, hi, rfl⟩
  · go_enter Try.func47, Try.ntmps47
    go_wp2
    refine bodyPost_ret (results_none rfl _ _ _) rfl ?_
    exact ⟨⟨_, rfl⟩, by unfold lay; rw [if_pos rfl]; exact HS.out, Stay.same (fun _ _ _ => rfl), Nat.le_refl _⟩
  · have h0 := HS.out.sl
    have g4 := HS.out.g4 hi
    have g5 := HS.out.g5 hi
    have g6 := HS.out.g6 hi
    have g7 := HS.out.g7 hi
    have f4 := HS.out.fz (i * 9 + 4)
    have f5 := HS.out.fz (i * 9 + 5)
    have f6 := HS.out.fz (i * 9 + 6)
    have f7 := HS.out.fz (i * 9 + 7)
    have i0 : (0 : Int) ≤ (i : Int) := Int.natCast_nonneg i
    have i1 : (i : Int) < (N : Int) := by omega
    have i2 : ((i : Int) == -1) = false := beq_eq_false_iff_ne.mpr (by omega)
    have i3 : ¬ ((i : Int) = -1) := by omega
    go_enter Try.func47, Try.ntmps47
    go_wp2
    try simp only [Act.put, List.setIfInBounds_toArray, List.set_cons_zero, List.set_cons_succ]
    go_region
    have k1 := HS.out.lay1 hi (wrap64 ((s (i : Int)).v + a)) (wrap64 ((s (i : Int)).ls + a)) (wrap64 ((s (i : Int)).ms + a)) (wrap64 ((s (i : Int)).a + a))
    have ez : w.heap.size ≤ ((((w.setCell ⟨gn, i * 9 + 4, none⟩ (.int .i64 (wrap64 ((s (i : Int)).v + a)))).setCell ⟨gn, i * 9 + 5, none⟩ (.int .i64 (wrap64 ((s (i : Int)).ls + a)))).setCell ⟨gn, i * 9 + 6, none⟩ (.int .i64 (wrap64 ((s (i : Int)).ms + a)))).setCell ⟨gn, i * 9 + 7, none⟩ (.int .i64 (wrap64 ((s (i : Int)).a + a)))).drew.heap.size := by simp
    have K1 := Aside0.mk k1
    have EZ := Aside0.mk ez
    clear k1 ez h0 g4 g5 g6 g7 f4 f5 f6 f7 HS
    generalize ((((w.setCell ⟨gn, i * 9 + 4, none⟩ (.int .i64 (wrap64 ((s (i : Int)).v + a)))).setCell ⟨gn, i * 9 + 5, none⟩ (.int .i64 (wrap64 ((s (i : Int)).ls + a)))).setCell ⟨gn, i * 9 + 6, none⟩ (.int .i64 (wrap64 ((s (i : Int)).ms + a)))).setCell ⟨gn, i * 9 + 7, none⟩ (.int .i64 (wrap64 ((s (i : Int)).a + a)))).drew = w1 at *
    have h0 := K1.out.1.sl
    have g1 := K1.out.1.g1 hi
    have g2 := K1.out.1.g2 hi
    have g8 := K1.out.1.g8 hi
    have f1 := K1.out.1.fz (i * 9 + 1)
    have f2 := K1.out.1.fz (i * 9 + 2)
    have f8 := K1.out.1.fz (i * 9 + 8)
    rw [upd_same] at g1 g2 g8
    cases t with
    | false =>
      go_wp2
      refine bodyPost_end (results_none rfl _ _ _) rfl ?_
      refine ⟨⟨_, rfl⟩, ?_, K1.out.2, EZ.out⟩
      unfold lay
      rw [if_neg i3]
      exact K1.out.1
    | true =>
      go_wp2
      try simp only [Act.put, List.setIfInBounds_toArray, List.set_cons_zero, List.set_cons_succ]
      go_region
      have k2 := Sp.then_ K1.out EZ.out (K1.out.1.lay2 hi (s (i : Int)).d1 (s (i : Int)).d0 (!(s (i : Int)).tn))
      rw [upd_upd, upd_same] at k2
      have hz := EZ.out
      refine bodyPost_end (results_none rfl _ _ _) rfl ?_
      refine ⟨⟨_, rfl⟩, ?_, k2.2, by simpa using hz⟩
      unfold lay
      rw [if_neg i3]
      exact k2.1
end Go.Proofs.YtcnmbgijehnchaaW.Splay
