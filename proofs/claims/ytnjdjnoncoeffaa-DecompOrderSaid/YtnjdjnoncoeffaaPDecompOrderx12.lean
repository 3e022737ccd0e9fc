/- For the law DecompOrder, for every input: printed by a program (wip/myprint), contracts by hand where it says MANUAL. -/
-- slim5
-- slim
import Derived.Test.YtnjdjnoncoeffaaPDecompOrderx0
import Derived.Test.YtnjdjnoncoeffaaPDecompOrderx9
namespace Go.Proofs.Ytnjdjnoncoeffaa.PDecompOrder
open Go.RowKit Go.Proofs.YtnjdjnoncoeffaaW.PrintWords Go.Proofs.YtnjdjnoncoeffaaW.PrintLast Go.Proofs.YtnjdjnoncoeffaaW.PrintMore
attribute [local go_sem] max2_int min2_int max_two min_two max_three min_three max_four min_four
set_option linter.unusedVariables false
set_option linter.unusedSimpArgs false
/-! ### decomp_place_int: function 34 -/
-- MANUAL: this contract was written by hand.
open Go.Proofs.YtnjdjnoncoeffaaW.Mine
set_option maxHeartbeats 8000000 in
set_option maxRecDepth 100000 in
/-- The place of the first arc with an amount. -/
theorem dcPlaceH_calls {w : World} {A : Option Addr} {c : Nat} {xs : List Int} {gb : Nat} (p : Int → Bool) (HR : Kd.C (Kd.int .i64) w A xs.length xs) (hwl : xs.length ≤ 2000000)
  (hcl : ∀ x ∈ xs, Calls Try.prog 37 #[.int .i64 x, .pointer (some ⟨gb, 0, none⟩)] w fun e w' => e = .returned (.bool (p x)) ∧ w = w') :
  Calls Try.prog 34 #[.slice A xs.length c, .func (.func 37) #[] #[.pointer (some ⟨gb, 0, none⟩)]] w fun e w' => e = .returned (.int .i64 ((xs.findIdx p : Nat) : Int)) ∧ w = w' := by
 (have HRR := Aside0.mk HR); (have HWL := Aside0.mk hwl); (have HCL := Aside0.mk hcl); (obtain ⟨R, hR⟩ : ∃ R, xs.findIdx p = R := ⟨_, rfl⟩); (have H := Aside0.mk hR); (rw [hR]); clear HR hwl hR hcl; (go_enter Try.func34, Try.ntmps34); (go_wp2_with fail); (go_loopg [9] (xs.length + 1) (fun kq v9 wr => ∃ (j : Nat), v9 = .int .i64 j ∧ Aside0 (j + kq = xs.length + 1 ∧ 0 < kq) ∧ Aside0 (j + (xs.drop j).findIdx p = R) ∧ w = wr))
 case atStart => exact ⟨0, rfl, ⟨by omega⟩, ⟨by rw [List.drop_zero, Nat.zero_add]; exact H.out⟩, rfl⟩
 case round =>
  clear H; (obtain ⟨j, rfl, HK, HA, rfl⟩ := hrel); (by_cases hlt : j < xs.length)
  ·have hlt2 : (j : Int) < (xs.length : Int) := by omega
   (have hj0 : (0 : Int) ≤ (j : Int) := by omega);(obtain ⟨ad, ea, hrd⟩ := Kd.at_int HRR.out (j : Int) hj0 hlt2);(cases ea);(have hA := HA.out);(rw [List.drop_eq_getElem_cons hlt, List.findIdx_cons] at hA);(have er : rd xs (j : Int) = xs[j] := by simp [rd, hlt]);(rw [er, Int.toNat_natCast] at hrd);(have hc := HCL.out xs[j] (List.getElem_mem hlt));(generalize xs[j] = x at hA hrd hc);(have HC := Aside0.mk hc);(clear er hlt HA hc);(obtain ⟨q, hq⟩ : ∃ q, p x = q := ⟨_, rfl⟩);(rw [hq] at hA);(have HQ := Aside0.mk hq);(clear hq)
   cases q with
   | true =>
    ((have hR : j = R := hA);(subst hR);(clear hA)); (go_wp2_with (go_at_call 37; refine HC.out.mono ?_; rw [HQ.out]; rintro e w5 ⟨rfl, rfl⟩)); (go_ret)
    exact ⟨rfl, rfl⟩
   | false =>
    have HA2 : Aside0 (j + 1 + (xs.drop (j + 1)).findIdx p = R) := ⟨by
     have h_ : j + ((xs.drop (j + 1)).findIdx p + 1) = R := hA
     omega⟩
    clear hA; (go_wp2_with (go_at_call 37; refine HC.out.mono ?_; rw [HQ.out]; rintro e w5 ⟨rfl, rfl⟩)); (obtain ⟨hk1, hk2⟩ := HK.out); (go_roundg (gk - 1))
    case measure => omega
    case rel => exact ⟨j + 1, dc_succ (by have h_ := HWL.out; omega), ⟨by omega⟩, HA2, rfl⟩
  ·have hge : ¬ ((j : Int) < (xs.length : Int)) := by omega
   (have hA := HA.out);(obtain ⟨hk1, hk2⟩ := HK.out);(rw [List.drop_of_length_le (by omega)] at hA)
   have hR : R = xs.length := by
    (have h_ : j + 0 = R := hA); (omega)
   ((subst hR);(clear hA hk1 hk2)); (go_wp2_with fail); (go_ret); (exact ⟨rfl, rfl⟩)
set_option maxHeartbeats 8000000 in
set_option maxRecDepth 100000 in
/-- The place of a node. -/
theorem dcPlaceI_calls {w : World} {A : Option Addr} {c : Nat} {xs : List Int} {gb : Nat} (p : Int → Bool) (HR : Kd.C (Kd.int .i64) w A xs.length xs) (hwl : xs.length ≤ 2000000)
  (hcl : ∀ x ∈ xs, Calls Try.prog 35 #[.int .i64 x, .pointer (some ⟨gb, 0, none⟩)] w fun e w' => e = .returned (.bool (p x)) ∧ w = w') :
  Calls Try.prog 34 #[.slice A xs.length c, .func (.func 35) #[] #[.pointer (some ⟨gb, 0, none⟩)]] w fun e w' => e = .returned (.int .i64 ((xs.findIdx p : Nat) : Int)) ∧ w = w' := by
 (have HRR := Aside0.mk HR); (have HWL := Aside0.mk hwl); (have HCL := Aside0.mk hcl); (obtain ⟨R, hR⟩ : ∃ R, xs.findIdx p = R := ⟨_, rfl⟩); (have H := Aside0.mk hR); (rw [hR]); clear HR hwl hR hcl; (go_enter Try.func34, Try.ntmps34); (go_wp2_with fail); (go_loopg [9] (xs.length + 1) (fun kq v9 wr => ∃ (j : Nat), v9 = .int .i64 j ∧ Aside0 (j + kq = xs.length + 1 ∧ 0 < kq) ∧ Aside0 (j + (xs.drop j).findIdx p = R) ∧ w = wr))
 case atStart => exact ⟨0, rfl, ⟨by omega⟩, ⟨by rw [List.drop_zero, Nat.zero_add]; exact H.out⟩, rfl⟩
 case round =>
  clear H; (obtain ⟨j, rfl, HK, HA, rfl⟩ := hrel); (by_cases hlt : j < xs.length)
  ·have hlt2 : (j : Int) < (xs.length : Int) := by omega
   (have hj0 : (0 : Int) ≤ (j : Int) := by omega);(obtain ⟨ad, ea, hrd⟩ := Kd.at_int HRR.out (j : Int) hj0 hlt2);(cases ea);(have hA := HA.out);(rw [List.drop_eq_getElem_cons hlt, List.findIdx_cons] at hA);(have er : rd xs (j : Int) = xs[j] := by simp [rd, hlt]);(rw [er, Int.toNat_natCast] at hrd);(have hc := HCL.out xs[j] (List.getElem_mem hlt));(generalize xs[j] = x at hA hrd hc);(have HC := Aside0.mk hc);(clear er hlt HA hc);(obtain ⟨q, hq⟩ : ∃ q, p x = q := ⟨_, rfl⟩);(rw [hq] at hA);(have HQ := Aside0.mk hq);(clear hq)
   cases q with
   | true =>
    ((have hR : j = R := hA);(subst hR);(clear hA)); (go_wp2_with (go_at_call 35; refine HC.out.mono ?_; rw [HQ.out]; rintro e w5 ⟨rfl, rfl⟩)); (go_ret)
    exact ⟨rfl, rfl⟩
   | false =>
    have HA2 : Aside0 (j + 1 + (xs.drop (j + 1)).findIdx p = R) := ⟨by
     have h_ : j + ((xs.drop (j + 1)).findIdx p + 1) = R := hA
     omega⟩
    clear hA; (go_wp2_with (go_at_call 35; refine HC.out.mono ?_; rw [HQ.out]; rintro e w5 ⟨rfl, rfl⟩)); (obtain ⟨hk1, hk2⟩ := HK.out); (go_roundg (gk - 1))
    case measure => omega
    case rel => exact ⟨j + 1, dc_succ (by have h_ := HWL.out; omega), ⟨by omega⟩, HA2, rfl⟩
  ·have hge : ¬ ((j : Int) < (xs.length : Int)) := by omega
   (have hA := HA.out);(obtain ⟨hk1, hk2⟩ := HK.out);(rw [List.drop_of_length_le (by omega)] at hA)
   have hR : R = xs.length := by
    (have h_ : j + 0 = R := hA); (omega)
   ((subst hR);(clear hA hk1 hk2)); (go_wp2_with fail); (go_ret); (exact ⟨rfl, rfl⟩)
end Go.Proofs.Ytnjdjnoncoeffaa.PDecompOrder
