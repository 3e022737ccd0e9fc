/- For the law DecompOrder, for every input: printed by a program (wip/myprint), contracts by hand where it says MANUAL. -/
-- slim5
-- slim
import Derived.Test.YtnjdjnoncoeffaaPDecompOrderx0
import Derived.Test.YtnjdjnoncoeffaaPDecompOrderx9
import Derived.Test.YtnjdjnoncoeffaaPDecompOrderx10
import Derived.StillTailTactics
namespace Go.Proofs.Ytnjdjnoncoeffaa.PDecompOrder
open Go.RowKit Go.Proofs.YtnjdjnoncoeffaaW.PrintWords Go.Proofs.YtnjdjnoncoeffaaW.PrintLast Go.Proofs.YtnjdjnoncoeffaaW.PrintMore
attribute [local go_sem] max2_int min2_int max_two min_two max_three min_three max_four min_four
set_option linter.unusedVariables false
set_option linter.unusedSimpArgs false
/-! ### decomp_walker_more: function 20 -/
-- MANUAL: this contract was written by hand.
open Go.Proofs.YtnjdjnoncoeffaaW.Mine
set_option maxHeartbeats 1000000 in
set_option maxRecDepth 100000 in
theorem dcMore_calls {own : Nat → Nat} {w0 w : World} {gw : Nat} {c0 c1 c2 c3 vl : Value} {left : List Int} {value : Int} {gt m : Nat} {ts : List (List Int)} (first : Nat) (hf : first ≤ left.length) (hl : left.length ≤ 2000000) (h : Dl 58 2 22 own w0 w gw c0 c1 c2 c3 vl left value gt m ts (first : Int)) :
  Calls Try.prog 20 #[.pointer (some ⟨gw, 0, none⟩)] w fun e w' => e = .returned (.bool (decide (first + dcIxP (left.drop first) < left.length))) ∧ Dl 58 2 22 own w0 w' gw c0 c1 c2 c3 vl left value gt m ts ((first + dcIxP (left.drop first) : Nat) : Int) ∧ Stay own own DlT w w' ∧ w.heap.size ≤ w'.heap.size := by
 (have hu98 := Try.underlying58); (obtain ⟨k, hk⟩ : ∃ k, dcIxP (left.drop first) = k := ⟨_, rfl⟩)
 have hkl : first + k ≤ left.length := by
  (have h_ := List.findIdx_le_length (xs := left.drop first) (p := fun x => decide (0 < x))); (rw [List.length_drop] at h_); (unfold dcIxP at hk); (omega)
 (rw [hk]); (have HK := Aside0.mk hk); (have HP := Aside0.mk h); (obtain ⟨Al, cl, el⟩ := Kd.R_slice h.left); subst el; (have hlc := (Kd.R_reads' h.left).2.1); (have hv := (Rw.vw h.left).cut hf hlc); (have HV : Aside0 (Kd.C (Kd.int .i64) w.drew (if cl = first then Al else Al.map (·.add first)) (left.drop first).length (left.drop first)) := ⟨Kd.C_drew (Kd.F_now hv)⟩); (have hld : (left.drop first).length = left.length - first := List.length_drop); (have HLD : Aside0 ((left.drop first).length ≤ 2000000) := ⟨by omega⟩); (have hw1 : wrap64 ((first : Int) + (k : Int)) = ((first + k : Nat) : Int) := by unfold wrap64; omega); (have hw2 : IntKind.i64.wrap ((first : Int) + (k : Int)) = ((first + k : Nat) : Int) := by rw [IntKind.wrap_i64]; omega); (have hf1 : (first : Int) ≤ (left.length : Int) := by omega); (have hf0 : (0 : Int) ≤ (first : Int) := by omega); (have hf2 : (left.length : Int) ≤ (cl : Int) := by omega); (have h4 := h.g4); (have h7 := h.g7); (have h4d : w.drew.cell? ⟨gw, 4, none⟩ = some (.slice Al left.length cl) := h4); (have h7d : w.drew.cell? ⟨gw, 7, none⟩ = some (.int .i64 (first : Int)) := h7); (have hf7 : w.drew.frozen? ⟨gw, 7, none⟩ = false := h.f7); (have HSF := Aside0.mk ((h.move (W1 := w.drew) (below_drew (Below.refl _ _))).setFirst ((first + k : Nat) : Int))); (obtain ⟨q, hq⟩ : ∃ q, decide (first + k < left.length) = q := ⟨_, rfl⟩); (have hqi : decide (((first + k : Nat) : Int) < (left.length : Int)) = q := by rw [← hq]; exact decide_eq_decide.2 (by omega)); (have HQ := Aside0.mk hqi); (rw [hq]); clear h hk hkl hf hl hlc hv hq hqi; (by_cases cc : cl = first)
 ·rw [if_pos cc] at HV
  subst cc
  have HCL : Aside0 (Calls Try.prog 27 #[.slice (Al) (left.length - cl) (0), .func (.func 28) #[] #[]] w.drew fun e w'' => e = .returned (.int .i64 (k : Int)) ∧ w'' = w.drew) := ⟨by
   (have h_ := dcPlaceP_calls (c := 0) HV.out HLD.out);(rw [hld, HK.out] at h_)
   exact h_.mono (by rintro e w' ⟨rfl, rfl⟩; exact ⟨rfl, rfl⟩)⟩
  clear hld HV HLD; (go_enter Try.func20, Try.ntmps20); (go_wp2_with fail); (go_still_tail 17, (by kernel_rfl))
  still_call HCL.out
  (repeat still_step); (refine wpStill_nil ?_); (change wpList _ _ _ _ _ w.drew); (have HZ : Aside0 (w.heap.size ≤ w.drew.heap.size) := ⟨Nat.le_refl _⟩); (have HS0 := Aside0.mk (Stay.below (own := own) (T := DlT) (below_drew (Below.refl w.heap.size w)))); clear HCL h4 h7; (generalize w.drew = w2 at *); (go_wp2_with ((with_reducible refine gate_store (t := 3) (p := 19) rfl ?_); refine store_event (t := 3) (p := 19) (v := ?va) (w1 := (w2.setCell ⟨gw, 7, none⟩ (.int .i64 ((cl + k : Nat) : Int)))) ?hg ?ho ?hn ?hr ?_; (case ho => rfl); (case hg => rfl); (case hn => rfl); (case hr => first | (go_simp; done) | (go_simp; rfl)); intro w7 hw; obtain ⟨hp7, hs7⟩ := HSF.out; have hz7 : w2.heap.size ≤ w7.heap.size := (by rw [hw]; exact dc_size _ _); rw [← hw] at hp7 hs7; clear hw; have HP7 := Aside0.mk hp7; have HS7 : Aside0 (Stay own own DlT w w7 ∧ w.heap.size ≤ w7.heap.size) := ⟨Stay.trans HS0.out HZ.out hs7, Nat.le_trans HZ.out hz7⟩; clear hp7 hs7 hz7 HSF h4d h7d hf7 HS0 HZ; have h4 := HP7.out.g4; have h7 := HP7.out.g7)); go_region; (all_goals (go_wp2_with fail)); (all_goals go_ret); (all_goals exact ⟨by first | rfl | (rw [← HQ.out]; rfl), HP7.out.move (below_drew (Below.refl _ _)), Stay.trans HS7.out.1 HS7.out.2 (Stay.below (below_drew (Below.refl _ _))), HS7.out.2⟩)
 ·rw [if_neg cc] at HV
  have HCL : Aside0 (Calls Try.prog 27 #[.slice (Option.map (fun x_ => Addr.add x_ first) Al) (left.length - first) (cl - first), .func (.func 28) #[] #[]] w.drew fun e w'' => e = .returned (.int .i64 (k : Int)) ∧ w'' = w.drew) := ⟨by
   (have h_ := dcPlaceP_calls (c := cl - first) HV.out HLD.out);(rw [hld, HK.out] at h_)
   exact h_.mono (by rintro e w' ⟨rfl, rfl⟩; exact ⟨rfl, rfl⟩)⟩
  clear hld HV HLD; (go_enter Try.func20, Try.ntmps20); (go_wp2_with fail); (go_still_tail 17, (by kernel_rfl))
  still_call HCL.out
  (repeat still_step); (refine wpStill_nil ?_); (change wpList _ _ _ _ _ w.drew); (have HZ : Aside0 (w.heap.size ≤ w.drew.heap.size) := ⟨Nat.le_refl _⟩); (have HS0 := Aside0.mk (Stay.below (own := own) (T := DlT) (below_drew (Below.refl w.heap.size w)))); clear HCL h4 h7; (generalize w.drew = w2 at *); (go_wp2_with ((with_reducible refine gate_store (t := 3) (p := 19) rfl ?_); refine store_event (t := 3) (p := 19) (v := ?va) (w1 := (w2.setCell ⟨gw, 7, none⟩ (.int .i64 ((first + k : Nat) : Int)))) ?hg ?ho ?hn ?hr ?_; (case ho => rfl); (case hg => rfl); (case hn => rfl); (case hr => first | (go_simp; done) | (go_simp; rfl)); intro w7 hw; obtain ⟨hp7, hs7⟩ := HSF.out; have hz7 : w2.heap.size ≤ w7.heap.size := (by rw [hw]; exact dc_size _ _); rw [← hw] at hp7 hs7; clear hw; have HP7 := Aside0.mk hp7; have HS7 : Aside0 (Stay own own DlT w w7 ∧ w.heap.size ≤ w7.heap.size) := ⟨Stay.trans HS0.out HZ.out hs7, Nat.le_trans HZ.out hz7⟩; clear hp7 hs7 hz7 HSF h4d h7d hf7 HS0 HZ; have h4 := HP7.out.g4; have h7 := HP7.out.g7)); go_region; (all_goals (go_wp2_with fail)); (all_goals go_ret); (all_goals exact ⟨by first | rfl | (rw [← HQ.out]; rfl), HP7.out.move (below_drew (Below.refl _ _)), Stay.trans HS7.out.1 HS7.out.2 (Stay.below (below_drew (Below.refl _ _))), HS7.out.2⟩)
end Go.Proofs.Ytnjdjnoncoeffaa.PDecompOrder
