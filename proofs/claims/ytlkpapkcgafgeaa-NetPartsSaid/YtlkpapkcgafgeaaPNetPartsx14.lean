/- For the law NetParts, for every input: printed by a program (wip/myprint), contracts by hand where it says MANUAL. -/
-- slim
import Derived.Test.YtlkpapkcgafgeaaPNetPartsx0
import Derived.Test.YtlkpapkcgafgeaaPNetPartsx12
namespace Go.Proofs.Ytlkpapkcgafgeaa.PNetParts
open Go.RowKit Go.Proofs.YtlkpapkcgafgeaaW.PrintWords Go.Proofs.YtlkpapkcgafgeaaW.PrintLast Go.Proofs.YtlkpapkcgafgeaaW.PrintMore
attribute [local go_sem] max2_int min2_int max_two min_two max_three min_three max_four min_four
set_option linter.unusedVariables false
set_option linter.unusedSimpArgs false
/-! ### net_In: function 10 -/
-- MANUAL: this contract was written by hand.
def net_In.f (a0_0 a0_1 a0_2 : Int) (l0_3 : List S34) (a1 : Int) : Option (List Int) := if l0_3.length < 17592186044416 then some (arcsOf (·.f1) a1 l0_3 0) else none
set_option maxHeartbeats 8000000 in
set_option maxRecDepth 100000 in
theorem net_In.calls (a0_0 a0_1 a0_2 : Int) (A0_3 : Option Addr) (c0_3 : Nat) (l0_3 : List S34) (a1 : Int) (r : List Int) (w : World) (hr0_3 : Kd.C k34 w A0_3 l0_3.length l0_3) (hc0_3 : l0_3.length ≤ c0_3) (h : net_In.f a0_0 a0_1 a0_2 l0_3 a1 = some r) :
  Calls Try.prog 10 #[.agg #[.int .i64 a0_0, .int .i64 a0_1, .int .i64 a0_2, .slice A0_3 l0_3.length c0_3], .int .i64 a1] w fun e w' => ∃ v0_ : Value, e = .returned (v0_) ∧ Kd.R (Kd.int .i64) 3 w' w.heap.size (fun _ => True) v0_ r ∧ Below w.heap.size w w' := by
 have hu26 := Try.underlying26
 have HR := Aside0.mk hr0_3
 clear hr0_3
 unfold net_In.f at h
 by_cases hl : l0_3.length < 17592186044416
 ·rw [if_pos hl] at h
  obtain rfl := Option.some.inj h
  clear h
  have HL := Aside0.mk hl
  clear hl
  have HB := Aside0.mk (Below.refl w.heap.size w)
  go_enter Try.func10, Try.ntmps10
  go_wp2_with (go_at_call 25; refine (arcsIn.calls a0_0 a0_1 a0_2 A0_3 c0_3 l0_3 a1 _ ?s1 hc0_3 HL.out).mono ?_; (case s1 => exact Kd.C_alloc HR.out _); rintro e w' ⟨v, rfl, ho, hb⟩)
  go_ret
  exact ⟨_, rfl, Kd.R_lower ho (below_size (by repeat (first | (with_reducible first | exact HB.out | apply below_alloc | apply pw_below_drewN | apply below_drew1) | exact HB.out))), below_step (by repeat (first | (with_reducible first | exact HB.out | apply below_alloc | apply pw_below_drewN | apply below_drew1) | exact HB.out)) hb⟩
 ·rw [if_neg hl] at h
  exact absurd h (by simp)
end Go.Proofs.Ytlkpapkcgafgeaa.PNetParts
