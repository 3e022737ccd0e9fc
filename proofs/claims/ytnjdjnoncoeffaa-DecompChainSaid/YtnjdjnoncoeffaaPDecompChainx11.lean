/- For the claim that the law DecompChain of the given program holds for every input: a text written by a program (wip/myprint over the kit's print), with contracts by hand where it says MANUAL. -/
import Derived.Test.YtnjdjnoncoeffaaPDecompChainx0
namespace Go.Proofs.Ytnjdjnoncoeffaa.PDecompChain
open Go.RowKit Go.Proofs.YtnjdjnoncoeffaaW.PrintWords Go.Proofs.YtnjdjnoncoeffaaW.PrintLast Go.Proofs.YtnjdjnoncoeffaaW.PrintMore
attribute [local go_sem] max2_int min2_int max_two min_two max_three min_three max_four min_four   -- for this text's walks alone
set_option linter.unusedVariables false
set_option linter.unusedSimpArgs false

/-! ### decomp_walker_item_1: function 35 -/
-- MANUAL: this contract was written by hand.
open Go.Proofs.YtnjdjnoncoeffaaW.Mine
set_option maxHeartbeats 8000000 in
theorem dcIs_calls (v at_ : Int) {gb : Nat} {w : World} (hb : w.cell? ⟨gb, 0, none⟩ = some (.int .i64 at_)) : Calls Try.prog 35 #[.int .i64 v, .pointer (some ⟨gb, 0, none⟩)] w fun e w' => e = .returned (.bool (decide (v = at_))) ∧ w = w' := by
  by_cases c : v = at_
  · have hd : (v == at_) = true := by simp [c]
    rw [decide_eq_true c]
    clear c
    go_enter Try.func35, Try.ntmps35
    go_wp2
    go_ret
    exact ⟨rfl, rfl⟩
  · have hd : (v == at_) = false := by simp [c]
    rw [decide_eq_false c]
    clear c
    go_enter Try.func35, Try.ntmps35
    go_wp2
    go_ret
    exact ⟨rfl, rfl⟩

end Go.Proofs.Ytnjdjnoncoeffaa.PDecompChain
