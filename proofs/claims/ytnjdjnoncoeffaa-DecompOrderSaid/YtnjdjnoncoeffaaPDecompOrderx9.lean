/- For the law DecompOrder, for every input: printed by a program (wip/myprint), contracts by hand where it says MANUAL. -/
-- slim5
-- slim
import Derived.Test.YtnjdjnoncoeffaaPDecompOrderx0
namespace Go.Proofs.Ytnjdjnoncoeffaa.PDecompOrder
open Go.RowKit Go.Proofs.YtnjdjnoncoeffaaW.PrintWords Go.Proofs.YtnjdjnoncoeffaaW.PrintLast Go.Proofs.YtnjdjnoncoeffaaW.PrintMore
attribute [local go_sem] max2_int min2_int max_two min_two max_three min_three max_four min_four
set_option linter.unusedVariables false
set_option linter.unusedSimpArgs false
/-! ### decomp_walker_more_1: function 28 -/
-- MANUAL: this contract was written by hand.
open Go.Proofs.YtnjdjnoncoeffaaW.Mine
set_option maxHeartbeats 8000000 in
theorem dcPos_calls (x : Int) (w : World) : Calls Try.prog 28 #[.int .i64 x] w fun e w' => e = .returned (.bool (decide (0 < x))) ∧ w = w' := by
 (obtain ⟨q, hq⟩ : ∃ q, decide (0 < x) = q := ⟨_, rfl⟩); (have HQ := Aside0.mk hq); (rw [hq]); clear hq; (go_enter Try.func28, Try.ntmps28); (go_wp2); (all_goals go_ret); (all_goals exact ⟨by first | rfl | (rw [← HQ.out]; rfl), rfl⟩)
/-! ### decomp_place_int64: function 27 -/
-- MANUAL: this contract was written by hand.
open Go.Proofs.YtnjdjnoncoeffaaW.Mine
theorem dc_succ {j : Nat} (h : j < 9223372036854775807) : Value.int .i64 (wrap64 ((j : Int) + 1)) = Value.int .i64 ((j + 1 : Nat) : Int) := by
 (have e : wrap64 ((j : Int) + 1) = ((j + 1 : Nat) : Int) := by unfold wrap64; omega); (rw [e])
/-- The place of the first amount. -/
def dcIxP (xs : List Int) : Nat := xs.findIdx (fun x => decide (0 < x))
set_option maxHeartbeats 8000000 in
set_option maxRecDepth 100000 in
theorem dcPlaceP_calls {w : World} {A : Option Addr} {c : Nat} {xs : List Int} (HR : Kd.C (Kd.int .i64) w A xs.length xs) (hwl : xs.length ≤ 2000000) :
  Calls Try.prog 27 #[.slice A xs.length c, .func (.func 28) #[] #[]] w fun e w' => e = .returned (.int .i64 ((dcIxP xs : Nat) : Int)) ∧ w = w' := by
 (have HRR := Aside0.mk HR); (have HWL := Aside0.mk hwl); (obtain ⟨R, hR⟩ : ∃ R, dcIxP xs = R := ⟨_, rfl⟩); (have H := Aside0.mk hR); (rw [hR]); clear HR hwl hR; (go_enter Try.func27, Try.ntmps27); (go_wp2_with fail); (go_loopg [9] (xs.length + 1) (fun kq v9 wr => ∃ (j : Nat), v9 = .int .i64 j ∧ Aside0 (j + kq = xs.length + 1 ∧ 0 < kq) ∧ Aside0 (j + dcIxP (xs.drop j) = R) ∧ w = wr))
 case atStart => exact ⟨0, rfl, ⟨by omega⟩, ⟨by rw [List.drop_zero, Nat.zero_add]; exact H.out⟩, rfl⟩
 case round =>
  clear H; (obtain ⟨j, rfl, HK, HA, rfl⟩ := hrel); (by_cases hlt : j < xs.length)
  ·have hlt2 : (j : Int) < (xs.length : Int) := by omega
   ((have hj0 : (0 : Int) ≤ (j : Int) := by omega);(obtain ⟨ad, ea, hrd⟩ := Kd.at_int HRR.out (j : Int) hj0 hlt2);(cases ea);(have hA := HA.out);(rw [List.drop_eq_getElem_cons hlt, dcIxP, List.findIdx_cons] at hA);(have er : rd xs (j : Int) = xs[j] := by simp [rd, hlt]);(rw [er, Int.toNat_natCast] at hrd);(generalize xs[j] = x at hA hrd);(clear er hlt HA)); (by_cases c0 : 0 < x); (·((rw [decide_eq_true c0] at hA);(have hR : j = R := hA);(subst hR);(have HD := Aside0.mk (decide_eq_true c0));(clear c0 hA)); (go_wp2_with (go_at_call 28; refine (dcPos_calls _ _).mono ?_; rw [HD.out]; rintro e w5 ⟨rfl, rfl⟩)); (go_ret); (exact ⟨rfl, rfl⟩))
   ·(rw [decide_eq_false c0] at hA);(have HD := Aside0.mk (decide_eq_false c0))
    have HA2 : Aside0 (j + 1 + dcIxP (xs.drop (j + 1)) = R) := ⟨by
     have h_ : j + (dcIxP (xs.drop (j + 1)) + 1) = R := hA
     omega⟩
    clear c0 hA; (go_wp2_with (go_at_call 28; refine (dcPos_calls _ _).mono ?_; rw [HD.out]; rintro e w5 ⟨rfl, rfl⟩)); (obtain ⟨hk1, hk2⟩ := HK.out); (go_roundg (gk - 1))
    case measure => omega
    case rel => exact ⟨j + 1, dc_succ (by have h_ := HWL.out; omega), ⟨by omega⟩, HA2, rfl⟩
  ·have hge : ¬ ((j : Int) < (xs.length : Int)) := by omega
   (have hA := HA.out);(obtain ⟨hk1, hk2⟩ := HK.out);(rw [List.drop_of_length_le (by omega)] at hA)
   have hR : R = xs.length := by
    (have h_ : j + 0 = R := hA); (omega)
   ((subst hR);(clear hA hk1 hk2)); (go_wp2_with fail); (go_ret); (exact ⟨rfl, rfl⟩)
end Go.Proofs.Ytnjdjnoncoeffaa.PDecompOrder
