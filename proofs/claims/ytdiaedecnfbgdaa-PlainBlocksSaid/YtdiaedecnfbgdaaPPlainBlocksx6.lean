/- For the law PlainBlocks, for every input: printed by a program (wip/myprint), contracts by hand where it says MANUAL. -/
-- slim5
-- slim
import Derived.Test.YtdiaedecnfbgdaaPPlainBlocksx0
import Derived.Test.YtdiaedecnfbgdaaPPlainBlocksx1
import Derived.Test.YtdiaedecnfbgdaaPPlainBlocksx3
import Derived.Test.YtdiaedecnfbgdaaPPlainBlocksx5
namespace Go.Proofs.Ytdiaedecnfbgdaa.PPlainBlocks
open Go.RowKit Go.Proofs.YtdiaedecnfbgdaaW.PrintWords Go.Proofs.YtdiaedecnfbgdaaW.PrintLast Go.Proofs.YtdiaedecnfbgdaaW.PrintMore
attribute [local go_sem] max2_int min2_int max_two min_two max_three min_three max_four min_four
set_option linter.unusedVariables false
set_option linter.unusedSimpArgs false
/-! ### flow_Value: function 19 -/
-- MANUAL: this contract was written by hand.
def flow_Value.f (k : Nat) (a0_0 : Int) (a0_1 : Int) (a0_2 : Int) (l0_3 : List (S30)) (l1 : List Int) : Option (Int × Int) := (flow_Check.f k a0_0 a0_1 a0_2 l0_3 l1).bind fun t => (if t = 0 then ((flow_excesses.f k a0_0 a0_1 a0_2 l0_3 l1).bind fun x => (if 0 ≤ a0_2 then (if a0_2 < (x.length : Int) then (some (rd x a0_2, 0)) else (none)) else (none))) else (some (0, t)))
theorem flow_Value.mono : ∀ a0 a1 a2 a3 a4 k, LeO (flow_Value.f k a0 a1 a2 a3 a4) (flow_Value.f (k + 1) a0 a1 a2 a3 a4) := by
 intro a0 a1 a2 a3 a4 k; (unfold flow_Value.f)
 repeat' first
   | (with_reducible exact flow_excesses.mono _ _ _ _ _ _)
   | (with_reducible exact flow_Check.mono _ _ _ _ _ _)
   | (with_reducible exact LeO.refl _)
   | (with_reducible exact LeO.none _)
   | (with_reducible refine LeO.ite ?_ ?_)
   | (with_reducible refine LeO.bind ?_ (fun _ => ?_))
set_option maxHeartbeats 8000000 in
set_option maxRecDepth 100000 in
theorem flow_Value.calls (k : Nat) (a0_0 : Int) (a0_1 : Int) (a0_2 : Int) (A0_3 : Option Addr) (c0_3 : Nat) (l0_3 : List (S30)) (A1 : Option Addr) (c1 : Nat) (l1 : List Int) (r1 : Int) (r2 : Int) (w : World) (hr0_3 : Kd.C k30 w A0_3 l0_3.length l0_3) (hc0_3 : l0_3.length ≤ c0_3) (hr1 : Kd.C (Kd.int .i64) w A1 l1.length l1) (hc1 : l1.length ≤ c1) (h : flow_Value.f k a0_0 a0_1 a0_2 l0_3 l1 = some (r1, r2)) :
  Calls Try.prog 19 #[.agg #[.int .i64 a0_0, .int .i64 a0_1, .int .i64 a0_2, .slice A0_3 l0_3.length c0_3], .slice A1 l1.length c1] w fun e w' => e = .returned (.tuple #[.int .i64 r1, .int .i64 r2]) ∧ Below w.heap.size w w' := by
 (have hu26 := Try.underlying26); (have HR := Aside0.mk hr0_3); (have HF := Aside0.mk hr1); (have HC1 := Aside0.mk hc1); clear hr0_3 hr1 hc1; (have HB0 := Aside0.mk (below_alloc (Below.refl w.heap.size w) (.cells #[.int .i64 a0_0, .int .i64 a0_1, .int .i64 a0_2, .slice A0_3 l0_3.length c0_3] 26))); (have BK0 := Aside0.mk (heap_new w (.cells #[.int .i64 a0_0, .int .i64 a0_1, .int .i64 a0_2, .slice A0_3 l0_3.length c0_3] 26))); (unfold flow_Value.f at h); (obtain ⟨t, ht, h⟩ := Option.bind_eq_some_iff.mp h); (have HT := Aside0.mk ht); clear ht; (by_cases h0 : t = 0)
 ·rw [if_pos h0] at h
  (obtain ⟨x, hx, h⟩ := Option.bind_eq_some_iff.mp h); (have HX := Aside0.mk hx); clear hx; (by_cases h1 : 0 ≤ a0_2)
  ·rw [if_pos h1] at h
   (by_cases h2 : a0_2 < (x.length : Int)); (·((rw [if_pos h2] at h);(simp only [Option.some.injEq, Prod.mk.injEq] at h);(obtain ⟨rfl, rfl⟩ := h);(subst h0);(have H1 := Aside0.mk h1);(have H2 := Aside0.mk h2);(clear h1 h2)); (go_enter Try.func19, Try.ntmps19); (go_wp2_with (first | (go_at_call 34; refine (flow_Check.calls k a0_0 a0_1 a0_2 _ _ l0_3 _ _ l1 0 _ ?s1 hc0_3 ?s2 HC1.out HT.out).mono ?_; (case s1 => exact Kd.C_alloc HR.out _); (case s2 => exact Kd.C_alloc HF.out _); rintro e w1 ⟨rfl, hb⟩; have HB := Aside0.mk (below_step HB0.out hb); have BK := Aside0.mk (blk_below BK0.out hb); clear hb; have hcz0 := (blk_cell BK.out 0); have hcz1 := (blk_cell BK.out 1); have hcz2 := (blk_cell BK.out 2); have hcz3 := (blk_cell BK.out 3); simp only [List.getElem?_toArray, List.getElem?_cons_zero, List.getElem?_cons_succ] at hcz0 hcz1 hcz2 hcz3))); (go_region_with (go_at_call 41; refine (flow_excesses.calls k a0_0 a0_1 a0_2 _ _ l0_3 _ _ l1 x _ ?t1 hc0_3 ?t2 HC1.out HX.out).mono ?_; (case t1 => exact Kd.C_below HR.out (by repeat (first | (with_reducible first | exact HB.out | apply below_alloc | apply pw_below_drewN | apply below_drew1) | exact HB.out))); (case t2 => exact Kd.C_below HF.out (by repeat (first | (with_reducible first | exact HB.out | apply below_alloc | apply pw_below_drewN | apply below_drew1) | exact HB.out))); rintro e w2 ⟨v, rfl, ho, hb⟩; obtain ⟨A, c, rfl, hle, hC⟩ := Kd.R_reads ho; obtain ⟨ad, rfl, hxa⟩ := Kd.at_int hC a0_2 H1.out H2.out; have hj1 : 0 ≤ a0_2 := H1.out; have hj2 : a0_2 < (x.length : Int) := H2.out; have HB2 := Aside0.mk (below_step (by repeat (first | (with_reducible first | exact HB.out | apply below_alloc | apply pw_below_drewN | apply below_drew1) | exact HB.out)) hb); have BK2 := Aside0.mk (blk_below (by (with_reducible repeat first | refine blk_drewN ?_ _ | refine blk_drew ?_ | refine blk_alloc ?_ _); exact BK.out) hb); clear hb ho hC hle; have hdz2 := (blk_cell BK2.out 2); simp only [List.getElem?_toArray, List.getElem?_cons_zero, List.getElem?_cons_succ] at hdz2)); (all_goals (try go_wp2)); (all_goals go_ret2); (all_goals exact ⟨rfl, by repeat (first | (with_reducible first | exact HB2.out | apply below_alloc | apply pw_below_drewN | apply below_drew1 | apply below_drew) | exact HB2.out)⟩))
   ·rw [if_neg h2] at h; exact absurd h (by simp)
  ·rw [if_neg h1] at h; exact absurd h (by simp)
 (·(rw [if_neg h0] at h); (simp only [Option.some.injEq, Prod.mk.injEq] at h); (obtain ⟨rfl, rfl⟩ := h); (have h0b : (t == 0) = false := beq_eq_false_iff_ne.mpr h0); (have h0c : (t != 0) = true := bne_iff_ne.mpr h0); clear h0; (go_enter Try.func19, Try.ntmps19); (go_wp2_with (first | (go_at_call 34; refine (flow_Check.calls k a0_0 a0_1 a0_2 _ _ l0_3 _ _ l1 t _ ?s1 hc0_3 ?s2 HC1.out HT.out).mono ?_; (case s1 => exact Kd.C_alloc HR.out _); (case s2 => exact Kd.C_alloc HF.out _); rintro e w1 ⟨rfl, hb⟩; have HB := Aside0.mk (below_step HB0.out hb); have BK := Aside0.mk (blk_below BK0.out hb); clear hb; have hcz0 := (blk_cell BK.out 0); have hcz1 := (blk_cell BK.out 1); have hcz2 := (blk_cell BK.out 2); have hcz3 := (blk_cell BK.out 3); simp only [List.getElem?_toArray, List.getElem?_cons_zero, List.getElem?_cons_succ] at hcz0 hcz1 hcz2 hcz3))); (go_ret2); (exact ⟨rfl, by repeat (first | (with_reducible first | exact HB.out | apply below_alloc | apply pw_below_drewN | apply below_drew1) | exact HB.out)⟩))
end Go.Proofs.Ytdiaedecnfbgdaa.PPlainBlocks
