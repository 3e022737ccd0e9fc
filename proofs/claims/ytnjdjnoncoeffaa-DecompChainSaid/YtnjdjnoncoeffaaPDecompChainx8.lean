/- For the claim that the law DecompChain of the given program holds for every input: a text written by a program (wip/myprint over the kit's print), with contracts by hand where it says MANUAL. -/
import Derived.Test.YtnjdjnoncoeffaaPDecompChainx0
namespace Go.Proofs.Ytnjdjnoncoeffaa.PDecompChain
open Go.RowKit Go.Proofs.YtnjdjnoncoeffaaW.PrintWords Go.Proofs.YtnjdjnoncoeffaaW.PrintLast Go.Proofs.YtnjdjnoncoeffaaW.PrintMore
attribute [local go_sem] max2_int min2_int max_two min_two max_three min_three max_four min_four   -- for this text's walks alone
set_option linter.unusedVariables false
set_option linter.unusedSimpArgs false

/-! ### decomp_walker_more_1: function 28 -/
-- MANUAL: this contract was written by hand.
open Go.Proofs.YtnjdjnoncoeffaaW.Mine
set_option maxHeartbeats 8000000 in
theorem dcPos_calls (x : Int) (w : World) : Calls Try.prog 28 #[.int .i64 x] w fun e w' => e = .returned (.bool (decide (0 < x))) ∧ w = w' := by
  obtain ⟨q, hq⟩ : ∃ q, decide (0 < x) = q := ⟨_, rfl⟩
  have HQ := Aside0.mk hq
  rw [hq]
  clear hq
  go_enter Try.func28, Try.ntmps28
  go_wp2
  all_goals go_ret
  all_goals exact ⟨by first | rfl | (rw [← HQ.out]; rfl), rfl⟩

end Go.Proofs.Ytnjdjnoncoeffaa.PDecompChain
