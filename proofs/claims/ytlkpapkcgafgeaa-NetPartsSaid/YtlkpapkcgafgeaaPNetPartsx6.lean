/- For the law NetParts, for every input: printed by a program (wip/myprint), contracts by hand where it says MANUAL. -/
-- slim
import Derived.Test.YtlkpapkcgafgeaaPNetPartsx0
import Derived.Test.YtlkpapkcgafgeaaPNetPartsx5
namespace Go.Proofs.Ytlkpapkcgafgeaa.PNetParts
open Go.RowKit Go.Proofs.YtlkpapkcgafgeaaW.PrintWords Go.Proofs.YtlkpapkcgafgeaaW.PrintLast Go.Proofs.YtlkpapkcgafgeaaW.PrintMore
attribute [local go_sem] max2_int min2_int max_two min_two max_three min_three max_four min_four
set_option linter.unusedVariables false
set_option linter.unusedSimpArgs false
/-! ### net_Same: function 8 -/
-- MANUAL: this contract was written by hand.
def net_Same.f (a0_0 a0_1 a0_2 : Int) (l0_3 : List S34) (a1_0 a1_1 a1_2 : Int) (l1_3 : List S34) : Option Bool :=
 some (decide (a0_0 = a1_0 ∧ a0_1 = a1_1 ∧ a0_2 = a1_2) && eqArcs l0_3 l1_3)
set_option maxHeartbeats 8000000 in
set_option maxRecDepth 100000 in
theorem net_Same.calls (a0_0 a0_1 a0_2 : Int) (A0_3 : Option Addr) (c0_3 : Nat) (l0_3 : List S34) (a1_0 a1_1 a1_2 : Int) (A1_3 : Option Addr) (c1_3 : Nat) (l1_3 : List S34) (r : Bool) (w : World) (hr0_3 : Kd.C k34 w A0_3 l0_3.length l0_3) (hc0_3 : l0_3.length ≤ c0_3) (hr1_3 : Kd.C k34 w A1_3 l1_3.length l1_3) (hc1_3 : l1_3.length ≤ c1_3) (h : net_Same.f a0_0 a0_1 a0_2 l0_3 a1_0 a1_1 a1_2 l1_3 = some r) :
  Calls Try.prog 8 #[.agg #[.int .i64 a0_0, .int .i64 a0_1, .int .i64 a0_2, .slice A0_3 l0_3.length c0_3], .agg #[.int .i64 a1_0, .int .i64 a1_1, .int .i64 a1_2, .slice A1_3 l1_3.length c1_3]] w fun e w' => e = .returned (.bool r) ∧ Below w.heap.size w w' := by
 have hu26 := Try.underlying26
 obtain rfl := Option.some.inj h
 clear h
 have HR0 := Aside0.mk hr0_3
 have HR1 := Aside0.mk hr1_3
 clear hr0_3 hr1_3
 have HB := Aside0.mk (Below.refl w.heap.size w)
 by_cases c1 : a0_0 = a1_0
 ·by_cases c2 : a0_1 = a1_1
  ·by_cases c3 : a0_2 = a1_2
   ·(rw [decide_eq_true (⟨c1, c2, c3⟩ : a0_0 = a1_0 ∧ a0_1 = a1_1 ∧ a0_2 = a1_2), Bool.true_and]);(subst c1 c2 c3)
    go_enter Try.func8, Try.ntmps8
    go_wp2_with (go_at_call 24; refine (eqFunc.calls A0_3 c0_3 l0_3 A1_3 c1_3 l1_3 _ ?s1 hc0_3 ?s2 hc1_3).mono ?_; (case s1 => exact Kd.C_alloc (Kd.C_alloc HR0.out _) _); (case s2 => exact Kd.C_alloc (Kd.C_alloc HR1.out _) _); rintro e w' ⟨rfl, hb⟩)
    go_ret
    exact ⟨rfl, below_step (by repeat (first | (with_reducible first | exact HB.out | apply below_alloc | apply pw_below_drewN | apply below_drew1) | exact HB.out)) hb⟩
   ·(rw [decide_eq_false (fun h : a0_0 = a1_0 ∧ a0_1 = a1_1 ∧ a0_2 = a1_2 => c3 h.2.2), Bool.false_and]);(subst c1 c2);(have c3b : (a0_2 == a1_2) = false := beq_eq_false_iff_ne.mpr c3)
    go_enter Try.func8, Try.ntmps8
    go_wp2
    go_ret
    exact ⟨rfl, by repeat (first | (with_reducible first | exact HB.out | apply below_alloc | apply pw_below_drewN | apply below_drew1) | exact HB.out)⟩
  ·rw [decide_eq_false (fun h : a0_0 = a1_0 ∧ a0_1 = a1_1 ∧ a0_2 = a1_2 => c2 h.2.1), Bool.false_and]
   (subst c1);(have c3b : (a0_1 == a1_1) = false := beq_eq_false_iff_ne.mpr c2)
   go_enter Try.func8, Try.ntmps8
   go_wp2
   go_ret
   exact ⟨rfl, by repeat (first | (with_reducible first | exact HB.out | apply below_alloc | apply pw_below_drewN | apply below_drew1) | exact HB.out)⟩
 ·rw [decide_eq_false (fun h : a0_0 = a1_0 ∧ a0_1 = a1_1 ∧ a0_2 = a1_2 => c1 h.1), Bool.false_and]
  have c3b : (a0_0 == a1_0) = false := beq_eq_false_iff_ne.mpr c1
  go_enter Try.func8, Try.ntmps8
  go_wp2
  go_ret
  exact ⟨rfl, by repeat (first | (with_reducible first | exact HB.out | apply below_alloc | apply pw_below_drewN | apply below_drew1) | exact HB.out)⟩
end Go.Proofs.Ytlkpapkcgafgeaa.PNetParts
