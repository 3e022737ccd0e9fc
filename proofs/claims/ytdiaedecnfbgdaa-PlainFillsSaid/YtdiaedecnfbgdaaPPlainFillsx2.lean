/- For the law PlainFills, for every input: printed by a program (wip/myprint), contracts by hand where it says MANUAL. -/
-- slim
import Derived.Test.YtdiaedecnfbgdaaPPlainFillsx0
namespace Go.Proofs.Ytdiaedecnfbgdaa.PPlainFills
open Go.RowKit Go.Proofs.YtdiaedecnfbgdaaW.PrintWords Go.Proofs.YtdiaedecnfbgdaaW.PrintLast Go.Proofs.YtdiaedecnfbgdaaW.PrintMore
attribute [local go_sem] max2_int min2_int max_two min_two max_three min_three max_four min_four
set_option linter.unusedVariables false
set_option linter.unusedSimpArgs false
/-! ### num_Add: function 55 -/
def num_Add.f (a0 : Int) (a1 : Int) : Option (Int × Int) := if (wrap64 (a0 + a1)) > a0 then (if a1 > 0 then (some (wrap64 (a0 + a1), 0)) else (if a1 = 0 then (some (wrap64 (a0 + a1), 0)) else (some (0, 3)))) else (if a1 > 0 then (if a1 = 0 then (some (wrap64 (a0 + a1), 0)) else (some (0, 3))) else (some (wrap64 (a0 + a1), 0)))
set_option maxHeartbeats 8000000 in
set_option maxRecDepth 100000 in
theorem num_Add.calls (a0 : Int) (a1 : Int) (r1 : Int) (r2 : Int) (w : World) (h : num_Add.f a0 a1 = some (r1, r2)) :
  Calls Try.prog 55 #[.int .i64 a0, .int .i64 a1] w fun e w' => e = .returned (.tuple #[.int .i64 r1, .int .i64 r2]) ∧ Drawn0 w w' := by
 have H : (if (wrap64 (a0 + a1)) > a0 then (if a1 > 0 then (some (wrap64 (a0 + a1), 0)) else (if a1 = 0 then (some (wrap64 (a0 + a1), 0)) else (some (0, 3)))) else (if a1 > 0 then (if a1 = 0 then (some (wrap64 (a0 + a1), 0)) else (some (0, 3))) else (some (wrap64 (a0 + a1), 0)))) = some (r1, r2) := h
 clear h
 by_cases c3 : (wrap64 (a0 + a1)) > a0
 ·rw [if_pos c3] at H
  have c3b0 : decide (a0 < (wrap64 (a0 + a1))) = true := decide_eq_true c3
  clear c3
  by_cases c4 : a1 > 0
  ·rw [if_pos c4] at H
   (have c4b0 : decide (0 < a1) = true := decide_eq_true c4);(clear c4)
   as_aux_lemma =>
    (simp only [Option.some.injEq, Prod.mk.injEq] at H);(obtain ⟨rfl, rfl⟩ := H)
    go_enter Try.func55, Try.ntmps55
    go_wp2
    go_ret2
    exact ⟨by first | rfl | (simp; done) | (simp [*]; done), by repeat (first | exact Drawn0.refl _ | apply Drawn0.step)⟩
  ·rw [if_neg c4] at H
   (have c4b0 : decide (0 < a1) = false := decide_eq_false c4);(clear c4)
   by_cases c5 : a1 = 0
   ·(rw [if_pos c5] at H);(have c5b0 : (a1 == 0) = true := beq_iff_eq.mpr c5);(have c5b1 : (a1 != 0) = false := bne_eq_false_iff_eq.mpr c5);(clear c5)
    as_aux_lemma =>
     (simp only [Option.some.injEq, Prod.mk.injEq] at H);(obtain ⟨rfl, rfl⟩ := H)
     go_enter Try.func55, Try.ntmps55
     go_wp2
     go_ret2
     exact ⟨by first | rfl | (simp; done) | (simp [*]; done), by repeat (first | exact Drawn0.refl _ | apply Drawn0.step)⟩
   ·(rw [if_neg c5] at H);(have c5b0 : (a1 == 0) = false := beq_eq_false_iff_ne.mpr c5);(have c5b1 : (a1 != 0) = true := bne_iff_ne.mpr c5)
    as_aux_lemma =>
     (simp only [Option.some.injEq, Prod.mk.injEq] at H);(obtain ⟨rfl, rfl⟩ := H)
     go_enter Try.func55, Try.ntmps55
     go_wp2
     go_ret2
     exact ⟨by first | rfl | (simp; done) | (simp [*]; done), by repeat (first | exact Drawn0.refl _ | apply Drawn0.step)⟩
 ·rw [if_neg c3] at H
  have c3b0 : decide (a0 < (wrap64 (a0 + a1))) = false := decide_eq_false c3
  clear c3
  by_cases c6 : a1 > 0
  ·rw [if_pos c6] at H
   (have c6b0 : decide (0 < a1) = true := decide_eq_true c6);(clear c6)
   by_cases c7 : a1 = 0
   ·(rw [if_pos c7] at H);(have c7b0 : (a1 == 0) = true := beq_iff_eq.mpr c7);(have c7b1 : (a1 != 0) = false := bne_eq_false_iff_eq.mpr c7);(clear c7)
    as_aux_lemma =>
     (simp only [Option.some.injEq, Prod.mk.injEq] at H);(obtain ⟨rfl, rfl⟩ := H)
     go_enter Try.func55, Try.ntmps55
     go_wp2
     go_ret2
     exact ⟨by first | rfl | (simp; done) | (simp [*]; done), by repeat (first | exact Drawn0.refl _ | apply Drawn0.step)⟩
   ·(rw [if_neg c7] at H);(have c7b0 : (a1 == 0) = false := beq_eq_false_iff_ne.mpr c7);(have c7b1 : (a1 != 0) = true := bne_iff_ne.mpr c7)
    as_aux_lemma =>
     (simp only [Option.some.injEq, Prod.mk.injEq] at H);(obtain ⟨rfl, rfl⟩ := H)
     go_enter Try.func55, Try.ntmps55
     go_wp2
     go_ret2
     exact ⟨by first | rfl | (simp; done) | (simp [*]; done), by repeat (first | exact Drawn0.refl _ | apply Drawn0.step)⟩
  ·rw [if_neg c6] at H
   (have c6b0 : decide (0 < a1) = false := decide_eq_false c6);(clear c6)
   as_aux_lemma =>
    (simp only [Option.some.injEq, Prod.mk.injEq] at H);(obtain ⟨rfl, rfl⟩ := H)
    go_enter Try.func55, Try.ntmps55
    go_wp2
    go_ret2
    exact ⟨by first | rfl | (simp; done) | (simp [*]; done), by repeat (first | exact Drawn0.refl _ | apply Drawn0.step)⟩
end Go.Proofs.Ytdiaedecnfbgdaa.PPlainFills
