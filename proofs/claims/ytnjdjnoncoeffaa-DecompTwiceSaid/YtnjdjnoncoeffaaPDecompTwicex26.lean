/- For the law DecompTwice, for every input: printed by a program (wip/myprint), contracts by hand where it says MANUAL. -/
-- slim
import Derived.Test.YtnjdjnoncoeffaaPDecompTwicex0
namespace Go.Proofs.Ytnjdjnoncoeffaa.PDecompTwice
open Go.RowKit Go.Proofs.YtnjdjnoncoeffaaW.PrintWords Go.Proofs.YtnjdjnoncoeffaaW.PrintLast Go.Proofs.YtnjdjnoncoeffaaW.PrintMore
attribute [local go_sem] max2_int min2_int max_two min_two max_three min_three max_four min_four
set_option linter.unusedVariables false
set_option linter.unusedSimpArgs false
/-! ### racewayref15_Same: function 17 -/
mutual
def racewayref15_Same.l0 : Nat → List (S67) → List (S67) → Int → Option (Bool)
 | 0, _, _, _ => none
 | k + 1, x0, x1, x5 => if x5 < (x0.length : Int) then (if 0 ≤ x5 then (if x5 < (x1.length : Int) then (if ((rd_T67 x0 x5).f0) = ((rd_T67 x1 x5).f0) then (if ((rd_T67 x0 x5).f2) = ((rd_T67 x1 x5).f2) then (racewayref15_Same.j1 k x0 x1 x5 ((((rd_T67 x0 x5).f1).length : Int) != (((rd_T67 x1 x5).f1).length : Int))) else (racewayref15_Same.j1 k x0 x1 x5 true)) else (racewayref15_Same.j1 k x0 x1 x5 true)) else (none)) else (none)) else (some true)
def racewayref15_Same.j1 : Nat → List (S67) → List (S67) → Int → Bool → Option (Bool)
 | 0, _, _, _, _ => none
 | k + 1, x0, x1, x5, x56 => if x56 = true then (some false) else (racewayref15_Same.l1 k x0 x1 x5 0)
def racewayref15_Same.l1 : Nat → List (S67) → List (S67) → Int → Int → Option (Bool)
 | 0, _, _, _, _ => none
 | k + 1, x0, x1, x5, x6 => if 0 ≤ x5 then (if x5 < (x0.length : Int) then (if x6 < (((rd_T67 x0 x5).f1).length : Int) then (if 0 ≤ x6 then (if x5 < (x1.length : Int) then (if x6 < (((rd_T67 x1 x5).f1).length : Int) then (if (rd ((rd_T67 x0 x5).f1) x6) = (rd ((rd_T67 x1 x5).f1) x6) then (racewayref15_Same.l1 k x0 x1 x5 (wrap64 (x6 + 1))) else (some false)) else (none)) else (none)) else (none)) else (racewayref15_Same.l0 k x0 x1 (wrap64 (x5 + 1)))) else (none)) else (none)
end
def racewayref15_Same.f (k : Nat) (l0 : List (S67)) (l1 : List (S67)) : Option (Bool) := if (l0.length : Int) = (l1.length : Int) then (racewayref15_Same.l0 k l0 l1 0) else (some false)
theorem racewayref15_Same.mono_l : ∀ k, (∀ y0 y1 y2, LeO (racewayref15_Same.l0 k y0 y1 y2) (racewayref15_Same.l0 (k + 1) y0 y1 y2)) ∧ (∀ y0 y1 y2 y3, LeO (racewayref15_Same.j1 k y0 y1 y2 y3) (racewayref15_Same.j1 (k + 1) y0 y1 y2 y3)) ∧ (∀ y0 y1 y2 y3, LeO (racewayref15_Same.l1 k y0 y1 y2 y3) (racewayref15_Same.l1 (k + 1) y0 y1 y2 y3))
 | 0 => ⟨fun _ _ _ r h => by simp [racewayref15_Same.l0] at h, fun _ _ _ _ r h => by simp [racewayref15_Same.j1] at h, fun _ _ _ _ r h => by simp [racewayref15_Same.l1] at h⟩
 | k + 1 => by
  obtain ⟨ih0, ih1, ih2⟩ := racewayref15_Same.mono_l k
  refine ⟨?_, ?_, ?_⟩
  ·intro y0 y1 y2
   unfold racewayref15_Same.l0
   repeat' first
   | (with_reducible exact ih0 _ _ _)
   | (with_reducible exact ih1 _ _ _ _)
   | (with_reducible exact ih2 _ _ _ _)
   | (with_reducible exact LeO.refl _)
   | (with_reducible exact LeO.none _)
   | (with_reducible refine LeO.ite ?_ ?_)
   | (with_reducible refine LeO.bind ?_ (fun _ => ?_))
   | exact ih0 _ _ _
   | exact ih1 _ _ _ _
   | exact ih2 _ _ _ _
   | exact LeO.none _
   | refine LeO.ite ?_ ?_
   | refine LeO.bind ?_ (fun _ => ?_)
  ·intro y0 y1 y2 y3
   unfold racewayref15_Same.j1
   repeat' first
   | (with_reducible exact ih0 _ _ _)
   | (with_reducible exact ih1 _ _ _ _)
   | (with_reducible exact ih2 _ _ _ _)
   | (with_reducible exact LeO.refl _)
   | (with_reducible exact LeO.none _)
   | (with_reducible refine LeO.ite ?_ ?_)
   | (with_reducible refine LeO.bind ?_ (fun _ => ?_))
   | exact ih0 _ _ _
   | exact ih1 _ _ _ _
   | exact ih2 _ _ _ _
   | exact LeO.none _
   | refine LeO.ite ?_ ?_
   | refine LeO.bind ?_ (fun _ => ?_)
  ·intro y0 y1 y2 y3
   unfold racewayref15_Same.l1
   repeat' first
   | (with_reducible exact ih0 _ _ _)
   | (with_reducible exact ih1 _ _ _ _)
   | (with_reducible exact ih2 _ _ _ _)
   | (with_reducible exact LeO.refl _)
   | (with_reducible exact LeO.none _)
   | (with_reducible refine LeO.ite ?_ ?_)
   | (with_reducible refine LeO.bind ?_ (fun _ => ?_))
   | exact ih0 _ _ _
   | exact ih1 _ _ _ _
   | exact ih2 _ _ _ _
   | exact LeO.none _
   | refine LeO.ite ?_ ?_
   | refine LeO.bind ?_ (fun _ => ?_)
theorem racewayref15_Same.mono : ∀ a0 a1 k, LeO (racewayref15_Same.f k a0 a1) (racewayref15_Same.f (k + 1) a0 a1) := by
 intro a0 a1 k
 obtain ⟨ih0, ih1, ih2⟩ := racewayref15_Same.mono_l k
 unfold racewayref15_Same.f
 repeat' first
   | (with_reducible exact ih0 _ _ _)
   | (with_reducible exact ih1 _ _ _ _)
   | (with_reducible exact ih2 _ _ _ _)
   | (with_reducible exact LeO.refl _)
   | (with_reducible exact LeO.none _)
   | (with_reducible refine LeO.ite ?_ ?_)
   | (with_reducible refine LeO.bind ?_ (fun _ => ?_))
   | exact ih0 _ _ _
   | exact ih1 _ _ _ _
   | exact ih2 _ _ _ _
   | exact LeO.none _
   | refine LeO.ite ?_ ?_
   | refine LeO.bind ?_ (fun _ => ?_)
set_option maxHeartbeats 8000000 in
set_option maxRecDepth 100000 in
theorem racewayref15_Same.calls (k : Nat) (A0 : Option Addr) (c0 : Nat) (l0 : List (S67)) (A1 : Option Addr) (c1 : Nat) (l1 : List (S67)) (r : Bool) (w : World) (hr0 : Kd.C k67 w A0 l0.length l0) (hc0 : l0.length ≤ c0) (hr1 : Kd.C k67 w A1 l1.length l1) (hc1 : l1.length ≤ c1) (h : racewayref15_Same.f k l0 l1 = some r) :
  Calls Try.prog 17 #[.slice A0 l0.length c0, .slice A1 l1.length c1] w fun e w' => e = .returned (.bool r) ∧ Drawn0 w w' := by
 have HR0 := Aside0.mk hr0
 have HC0 := Aside0.mk hc0
 clear hr0 hc0
 have HR1 := Aside0.mk hr1
 have HC1 := Aside0.mk hc1
 clear hr1 hc1
 have H : (if (l0.length : Int) = (l1.length : Int) then (racewayref15_Same.l0 k l0 l1 0) else (some false)) = some r := h
 clear h
 by_cases c3 : (l0.length : Int) = (l1.length : Int)
 ·rw [if_pos c3] at H
  have c3b0 : ((l0.length : Int) == (l1.length : Int)) = true := beq_iff_eq.mpr c3
  have c3b1 : ((l0.length : Int) != (l1.length : Int)) = false := bne_eq_false_iff_eq.mpr c3
  have c3b2 : (l0.length == l1.length) = true := by first | simpa using c3 | (simp at c3 ⊢; omega)
  clear c3
  have H' := Aside0.mk H
  clear H
  go_enter Try.func17, Try.ntmps17
  go_wp2
  repeat (go_quiet (fail); try go_wp2)
  go_loopg [5] k (fun kq v5 w' => ∃ (x5_1 : Int), v5 = .int .i64 x5_1 ∧ Aside0 (racewayref15_Same.l0 kq l0 l1 x5_1 = some r) ∧ Aside0 (kq ≤ k) ∧ Drawn0 w w')
  case atStart => exact ⟨(0), (by first | rfl | (simp; done) | (simp [*]; done)), H', ⟨Nat.le_refl _⟩, by repeat (first | exact Drawn0.refl _ | apply Drawn0.step)⟩
  case round =>
   clear H'
   try clear c1
   try clear p2
   try clear c3
   try clear c3b0
   try clear c3b1
   try clear c3b2
   obtain ⟨x5_1, rfl, HA, HK1, ⟨m1, rfl⟩⟩ := hrel
   cases gk with
   | zero => exact absurd HA.out (by simp [racewayref15_Same.l0])
   | succ k1 =>
    (have H := HA.out);(clear HA);(simp only [racewayref15_Same.l0] at H)
    by_cases c4 : x5_1 < (l0.length : Int)
    ·(rw [if_pos c4] at H);(have c4b0 : decide (x5_1 < (l0.length : Int)) = true := decide_eq_true c4);(clear c4);(have HC5 := Aside0.mk H);(clear H)
     go_upto_region 6 with (fail)
     repeat (go_quiet (fail); go_upto_region 6 with (fail))
     go_cut [56] (fun v56 wc => ∃ (kq : Nat) (x56_4 : Bool), v56 = .bool x56_4 ∧ Aside0 (racewayref15_Same.j1 kq l0 l1 x5_1 x56_4 = some r) ∧ Aside0 (kq ≤ k1) ∧ Drawn0 w wc)
     case first =>
      (have H := HC5.out);(clear HC5)
      by_cases c6 : 0 ≤ x5_1
      ·(rw [if_pos c6] at H);(have c6b0 : decide (0 ≤ x5_1) = true := decide_eq_true c6);(clear c6);((first | rw [c6b0] | (simp only [i64_w, i32_w]; rw [c6b0]) | skip))
       by_cases c7 : x5_1 < (l1.length : Int)
       ·(rw [if_pos c7] at H);(have c7b0 : decide (x5_1 < (l1.length : Int)) = true := decide_eq_true c7);(clear c7)
        by_cases c8 : ((rd_T67 l0 x5_1).f0) = ((rd_T67 l1 x5_1).f0)
        ·(rw [if_pos c8] at H);(have c8b0 : (((rd_T67 l0 x5_1).f0) == ((rd_T67 l1 x5_1).f0)) = true := beq_iff_eq.mpr c8);(have c8b1 : (((rd_T67 l0 x5_1).f0) != ((rd_T67 l1 x5_1).f0)) = false := bne_eq_false_iff_eq.mpr c8);(clear c8)
         by_cases c9 : ((rd_T67 l0 x5_1).f2) = ((rd_T67 l1 x5_1).f2)
         ·(rw [if_pos c9] at H);(have c9b0 : (((rd_T67 l0 x5_1).f2) == ((rd_T67 l1 x5_1).f2)) = true := beq_iff_eq.mpr c9);(have c9b1 : (((rd_T67 l0 x5_1).f2) != ((rd_T67 l1 x5_1).f2)) = false := bne_eq_false_iff_eq.mpr c9);(clear c9)
          as_aux_lemma =>
           (have H' := Aside0.mk H);(clear H);(have p217 : 0 ≤ (x5_1 : Int) := of_decide_eq_true (by first | (with_reducible assumption) | assumption));(have q217 : x5_1 < (l0.length : Int) := of_decide_eq_true (by first | (with_reducible assumption) | assumption));(obtain ⟨ad217, A217_1, c217_1, e217, hx217_0, hx217_1, hx217_2, hl217_1, hi217_1⟩ := at_T67 HR0.out x5_1 p217 q217);(cases e217);(have HR217_1 := Aside0.mk hi217_1);(have HC217_1 := Aside0.mk hl217_1);(clear hi217_1 hl217_1);(replace p217 := eq_true p217);(replace q217 := eq_true q217);(have p218 : 0 ≤ (x5_1 : Int) := of_decide_eq_true (by first | (with_reducible assumption) | assumption));(have q218 : x5_1 < (l1.length : Int) := of_decide_eq_true (by first | (with_reducible assumption) | assumption));(obtain ⟨ad218, A218_1, c218_1, e218, hx218_0, hx218_1, hx218_2, hl218_1, hi218_1⟩ := at_T67 HR1.out x5_1 p218 q218);(cases e218);(have HR218_1 := Aside0.mk hi218_1);(have HC218_1 := Aside0.mk hl218_1);(clear hi218_1 hl218_1);(replace p218 := eq_true p218);(replace q218 := eq_true q218);(have p219 : 0 ≤ (x5_1 : Int) := of_decide_eq_true (by first | (with_reducible assumption) | assumption));(have q219 : x5_1 < (l0.length : Int) := of_decide_eq_true (by first | (with_reducible assumption) | assumption));(obtain ⟨ad219, A219_1, c219_1, e219, hx219_0, hx219_1, hx219_2, hl219_1, hi219_1⟩ := at_T67 HR0.out x5_1 p219 q219);(obtain rfl : ad217 = ad219 := (by injection e219));(have HR219_1 := Aside0.mk hi219_1);(have HC219_1 := Aside0.mk hl219_1);(clear hi219_1 hl219_1);(replace p219 := eq_true p219);(replace q219 := eq_true q219);(have ea_ := Option.some.inj (hx217_1.symm.trans hx219_1));(injection ea_ with ea_ en_ ec_);(subst ea_);(subst ec_);(clear en_);(have p220 : 0 ≤ (x5_1 : Int) := of_decide_eq_true (by first | (with_reducible assumption) | assumption));(have q220 : x5_1 < (l1.length : Int) := of_decide_eq_true (by first | (with_reducible assumption) | assumption));(obtain ⟨ad220, A220_1, c220_1, e220, hx220_0, hx220_1, hx220_2, hl220_1, hi220_1⟩ := at_T67 HR1.out x5_1 p220 q220);(obtain rfl : ad218 = ad220 := (by injection e220));(have HR220_1 := Aside0.mk hi220_1);(have HC220_1 := Aside0.mk hl220_1);(clear hi220_1 hl220_1);(replace p220 := eq_true p220);(replace q220 := eq_true q220);(have ea_ := Option.some.inj (hx218_1.symm.trans hx220_1));(injection ea_ with ea_ en_ ec_);(subst ea_);(subst ec_);(clear en_);(have p221 : 0 ≤ (x5_1 : Int) := of_decide_eq_true (by first | (with_reducible assumption) | assumption));(have q221 : x5_1 < (l0.length : Int) := of_decide_eq_true (by first | (with_reducible assumption) | assumption));(obtain ⟨ad221, A221_1, c221_1, e221, hx221_0, hx221_1, hx221_2, hl221_1, hi221_1⟩ := at_T67 HR0.out x5_1 p221 q221);(obtain rfl : ad217 = ad221 := (by injection e221));(have HR221_1 := Aside0.mk hi221_1);(have HC221_1 := Aside0.mk hl221_1);(clear hi221_1 hl221_1);(replace p221 := eq_true p221);(replace q221 := eq_true q221);(have ea_ := Option.some.inj (hx217_1.symm.trans hx221_1));(injection ea_ with ea_ en_ ec_);(subst ea_);(subst ec_);(clear en_);(have p222 : 0 ≤ (x5_1 : Int) := of_decide_eq_true (by first | (with_reducible assumption) | assumption));(have q222 : x5_1 < (l1.length : Int) := of_decide_eq_true (by first | (with_reducible assumption) | assumption));(obtain ⟨ad222, A222_1, c222_1, e222, hx222_0, hx222_1, hx222_2, hl222_1, hi222_1⟩ := at_T67 HR1.out x5_1 p222 q222);(obtain rfl : ad218 = ad222 := (by injection e222));(have HR222_1 := Aside0.mk hi222_1);(have HC222_1 := Aside0.mk hl222_1);(clear hi222_1 hl222_1);(replace p222 := eq_true p222);(replace q222 := eq_true q222);(have ea_ := Option.some.inj (hx218_1.symm.trans hx222_1));(injection ea_ with ea_ en_ ec_);(subst ea_);(subst ec_);(clear en_)
           go_wp2
           repeat (go_quiet (fail); try go_wp2)
           go_meet
           case rel => exact ⟨_, (((((rd_T67 l0 x5_1).f1).length : Int) != (((rd_T67 l1 x5_1).f1).length : Int))), (by first | rfl | (simp; done) | (simp [*]; done)), H', ⟨by have := HK1.out; first | omega | exact Nat.le_refl _⟩, by repeat (first | exact Drawn0.refl _ | apply Drawn0.step)⟩
         ·(rw [if_neg c9] at H);(have c9b0 : (((rd_T67 l0 x5_1).f2) == ((rd_T67 l1 x5_1).f2)) = false := beq_eq_false_iff_ne.mpr c9);(have c9b1 : (((rd_T67 l0 x5_1).f2) != ((rd_T67 l1 x5_1).f2)) = true := bne_iff_ne.mpr c9)
          as_aux_lemma =>
           (have H' := Aside0.mk H);(clear H);(have p217 : 0 ≤ (x5_1 : Int) := of_decide_eq_true (by first | (with_reducible assumption) | assumption));(have q217 : x5_1 < (l0.length : Int) := of_decide_eq_true (by first | (with_reducible assumption) | assumption));(obtain ⟨ad217, A217_1, c217_1, e217, hx217_0, hx217_1, hx217_2, hl217_1, hi217_1⟩ := at_T67 HR0.out x5_1 p217 q217);(cases e217);(have HR217_1 := Aside0.mk hi217_1);(have HC217_1 := Aside0.mk hl217_1);(clear hi217_1 hl217_1);(replace p217 := eq_true p217);(replace q217 := eq_true q217);(have p218 : 0 ≤ (x5_1 : Int) := of_decide_eq_true (by first | (with_reducible assumption) | assumption));(have q218 : x5_1 < (l1.length : Int) := of_decide_eq_true (by first | (with_reducible assumption) | assumption));(obtain ⟨ad218, A218_1, c218_1, e218, hx218_0, hx218_1, hx218_2, hl218_1, hi218_1⟩ := at_T67 HR1.out x5_1 p218 q218);(cases e218);(have HR218_1 := Aside0.mk hi218_1);(have HC218_1 := Aside0.mk hl218_1);(clear hi218_1 hl218_1);(replace p218 := eq_true p218);(replace q218 := eq_true q218);(have p219 : 0 ≤ (x5_1 : Int) := of_decide_eq_true (by first | (with_reducible assumption) | assumption));(have q219 : x5_1 < (l0.length : Int) := of_decide_eq_true (by first | (with_reducible assumption) | assumption));(obtain ⟨ad219, A219_1, c219_1, e219, hx219_0, hx219_1, hx219_2, hl219_1, hi219_1⟩ := at_T67 HR0.out x5_1 p219 q219);(obtain rfl : ad217 = ad219 := (by injection e219));(have HR219_1 := Aside0.mk hi219_1);(have HC219_1 := Aside0.mk hl219_1);(clear hi219_1 hl219_1);(replace p219 := eq_true p219);(replace q219 := eq_true q219);(have ea_ := Option.some.inj (hx217_1.symm.trans hx219_1));(injection ea_ with ea_ en_ ec_);(subst ea_);(subst ec_);(clear en_);(have p220 : 0 ≤ (x5_1 : Int) := of_decide_eq_true (by first | (with_reducible assumption) | assumption));(have q220 : x5_1 < (l1.length : Int) := of_decide_eq_true (by first | (with_reducible assumption) | assumption));(obtain ⟨ad220, A220_1, c220_1, e220, hx220_0, hx220_1, hx220_2, hl220_1, hi220_1⟩ := at_T67 HR1.out x5_1 p220 q220);(obtain rfl : ad218 = ad220 := (by injection e220));(have HR220_1 := Aside0.mk hi220_1);(have HC220_1 := Aside0.mk hl220_1);(clear hi220_1 hl220_1);(replace p220 := eq_true p220);(replace q220 := eq_true q220);(have ea_ := Option.some.inj (hx218_1.symm.trans hx220_1));(injection ea_ with ea_ en_ ec_);(subst ea_);(subst ec_);(clear en_)
           go_wp2
           repeat (go_quiet (fail); try go_wp2)
           go_meet
           case rel => exact ⟨_, (true), (by first | rfl | (simp; done) | (simp [*]; done)), H', ⟨by have := HK1.out; first | omega | exact Nat.le_refl _⟩, by repeat (first | exact Drawn0.refl _ | apply Drawn0.step)⟩
        ·(rw [if_neg c8] at H);(have c8b0 : (((rd_T67 l0 x5_1).f0) == ((rd_T67 l1 x5_1).f0)) = false := beq_eq_false_iff_ne.mpr c8);(have c8b1 : (((rd_T67 l0 x5_1).f0) != ((rd_T67 l1 x5_1).f0)) = true := bne_iff_ne.mpr c8)
         as_aux_lemma =>
          (have H' := Aside0.mk H);(clear H);(have p217 : 0 ≤ (x5_1 : Int) := of_decide_eq_true (by first | (with_reducible assumption) | assumption));(have q217 : x5_1 < (l0.length : Int) := of_decide_eq_true (by first | (with_reducible assumption) | assumption));(obtain ⟨ad217, A217_1, c217_1, e217, hx217_0, hx217_1, hx217_2, hl217_1, hi217_1⟩ := at_T67 HR0.out x5_1 p217 q217);(cases e217);(have HR217_1 := Aside0.mk hi217_1);(have HC217_1 := Aside0.mk hl217_1);(clear hi217_1 hl217_1);(replace p217 := eq_true p217);(replace q217 := eq_true q217);(have p218 : 0 ≤ (x5_1 : Int) := of_decide_eq_true (by first | (with_reducible assumption) | assumption));(have q218 : x5_1 < (l1.length : Int) := of_decide_eq_true (by first | (with_reducible assumption) | assumption));(obtain ⟨ad218, A218_1, c218_1, e218, hx218_0, hx218_1, hx218_2, hl218_1, hi218_1⟩ := at_T67 HR1.out x5_1 p218 q218);(cases e218);(have HR218_1 := Aside0.mk hi218_1);(have HC218_1 := Aside0.mk hl218_1);(clear hi218_1 hl218_1);(replace p218 := eq_true p218);(replace q218 := eq_true q218)
          go_wp2
          repeat (go_quiet (fail); try go_wp2)
          go_meet
          case rel => exact ⟨_, (true), (by first | rfl | (simp; done) | (simp [*]; done)), H', ⟨by have := HK1.out; first | omega | exact Nat.le_refl _⟩, by repeat (first | exact Drawn0.refl _ | apply Drawn0.step)⟩
       ·(rw [if_neg c7] at H);(exact absurd H (by simp))
      ·(rw [if_neg c6] at H);(exact absurd H (by simp))
     case rest =>
      clear HC5
      try clear c1
      try clear c2
      try clear p2
      try clear q2
      try clear hx2
      try clear c3
      try clear c3b0
      try clear c3b1
      try clear c3b2
      try clear c4
      try clear c4b0
      try clear c6
      try clear c6b0
      try clear c7
      try clear c7b0
      try clear c8
      try clear c8b0
      try clear c8b1
      try clear c9
      try clear c9b0
      try clear c9b1
      try clear hx217_0
      try clear hx217_1
      try clear hx217_2
      try clear hx218_0
      try clear hx218_1
      try clear hx218_2
      try clear hx219_0
      try clear hx219_1
      try clear hx219_2
      try clear hx220_0
      try clear hx220_1
      try clear hx220_2
      try clear hx221_0
      try clear hx221_1
      try clear hx221_2
      try clear hx222_0
      try clear hx222_1
      try clear hx222_2
      try clear p2
      try clear p217
      try clear p218
      try clear p219
      try clear p220
      try clear p221
      try clear p222
      try clear q217
      try clear q218
      try clear q219
      try clear q220
      try clear q221
      try clear q222
      obtain ⟨kq, x56_4, rfl, HA, HJ4, ⟨mc4, rfl⟩⟩ := hcut
      cases kq with
      | zero => exact absurd HA.out (by simp [racewayref15_Same.j1])
      | succ kj4 =>
       (have H := HA.out);(clear HA);(simp only [racewayref15_Same.j1] at H)
       by_cases c10 : x56_4 = true
       ·(subst c10);(have H1 : (some false) = some r := by rw [if_pos rfl] at H; exact H);(clear H);(have H := H1);(clear H1)
        as_aux_lemma =>
         obtain rfl := Option.some.inj H
         go_wp2
         repeat (go_quiet (fail); try go_wp2)
         go_ret
         exact ⟨by first | rfl | (simp; done) | (simp [*]; done), by repeat (first | exact Drawn0.refl _ | apply Drawn0.step)⟩
       ·(replace c10 := Bool.eq_false_iff.mpr c10);(subst c10);(have H1 : (racewayref15_Same.l1 kj4 l0 l1 x5_1 0) = some r := by rw [if_neg (show ¬ (false = true) by decide)] at H; exact H);(clear H);(have H := H1);(clear H1);(have H' := Aside0.mk H);(clear H)
        go_wp2
        repeat (go_quiet (fail); try go_wp2)
        go_loopg [6] kj4 (fun kq v6 w' => ∃ (x6_3 : Int), v6 = .int .i64 x6_3 ∧ Aside0 (racewayref15_Same.l1 kq l0 l1 x5_1 x6_3 = some r) ∧ Aside0 (kq ≤ kj4) ∧ Drawn0 w w')
        case atStart => exact ⟨(0), (by first | rfl | (simp; done) | (simp [*]; done)), H', ⟨Nat.le_refl _⟩, by repeat (first | exact Drawn0.refl _ | apply Drawn0.step)⟩
        case round =>
         clear H'
         try clear c1
         try clear c2
         try clear p2
         try clear q2
         try clear hx2
         try clear c3
         try clear c3b0
         try clear c3b1
         try clear c3b2
         try clear c4
         try clear c4b0
         try clear c6
         try clear c6b0
         try clear c7
         try clear c7b0
         try clear c8
         try clear c8b0
         try clear c8b1
         try clear c9
         try clear c9b0
         try clear c9b1
         try clear c10
         try clear hx217_0
         try clear hx217_1
         try clear hx217_2
         try clear hx218_0
         try clear hx218_1
         try clear hx218_2
         try clear hx219_0
         try clear hx219_1
         try clear hx219_2
         try clear hx220_0
         try clear hx220_1
         try clear hx220_2
         try clear hx221_0
         try clear hx221_1
         try clear hx221_2
         try clear hx222_0
         try clear hx222_1
         try clear hx222_2
         try clear p2
         try clear p217
         try clear p218
         try clear p219
         try clear p220
         try clear p221
         try clear p222
         try clear q2
         try clear q217
         try clear q218
         try clear q219
         try clear q220
         try clear q221
         try clear q222
         obtain ⟨x6_3, rfl, HA, HK3, ⟨m3, rfl⟩⟩ := hrel
         cases gk with
         | zero => exact absurd HA.out (by simp [racewayref15_Same.l1])
         | succ k3 =>
          (have H := HA.out);(clear HA);(simp only [racewayref15_Same.l1] at H)
          by_cases c11 : 0 ≤ x5_1
          ·(rw [if_pos c11] at H);(have c11b0 : decide (0 ≤ x5_1) = true := decide_eq_true c11);(clear c11)
           by_cases c12 : x5_1 < (l0.length : Int)
           ·(rw [if_pos c12] at H);(have c12b0 : decide (x5_1 < (l0.length : Int)) = true := decide_eq_true c12);(clear c12)
            by_cases c13 : x6_3 < (((rd_T67 l0 x5_1).f1).length : Int)
            ·(rw [if_pos c13] at H);(have c13b0 : decide (x6_3 < (((rd_T67 l0 x5_1).f1).length : Int)) = true := decide_eq_true c13);(clear c13)
             by_cases c14 : 0 ≤ x6_3
             ·(rw [if_pos c14] at H);(have c14b0 : decide (0 ≤ x6_3) = true := decide_eq_true c14);(clear c14)
              by_cases c15 : x5_1 < (l1.length : Int)
              ·(rw [if_pos c15] at H);(have c15b0 : decide (x5_1 < (l1.length : Int)) = true := decide_eq_true c15);(clear c15)
               by_cases c16 : x6_3 < (((rd_T67 l1 x5_1).f1).length : Int)
               ·(rw [if_pos c16] at H);(have c16b0 : decide (x6_3 < (((rd_T67 l1 x5_1).f1).length : Int)) = true := decide_eq_true c16);(clear c16)
                by_cases c17 : (rd ((rd_T67 l0 x5_1).f1) x6_3) = (rd ((rd_T67 l1 x5_1).f1) x6_3)
                ·(rw [if_pos c17] at H);(have c17b0 : ((rd ((rd_T67 l0 x5_1).f1) x6_3) == (rd ((rd_T67 l1 x5_1).f1) x6_3)) = true := beq_iff_eq.mpr c17);(have c17b1 : ((rd ((rd_T67 l0 x5_1).f1) x6_3) != (rd ((rd_T67 l1 x5_1).f1) x6_3)) = false := bne_eq_false_iff_eq.mpr c17);(clear c17)
                 as_aux_lemma =>
                  (have H' := Aside0.mk H);(clear H);(have p223 : 0 ≤ (x5_1 : Int) := of_decide_eq_true (by first | (with_reducible assumption) | assumption));(have q223 : x5_1 < (l0.length : Int) := of_decide_eq_true (by first | (with_reducible assumption) | assumption));(obtain ⟨ad223, A223_1, c223_1, e223, hx223_0, hx223_1, hx223_2, hl223_1, hi223_1⟩ := at_T67 HR0.out x5_1 p223 q223);(cases e223);(have HR223_1 := Aside0.mk hi223_1);(have HC223_1 := Aside0.mk hl223_1);(clear hi223_1 hl223_1);(replace p223 := eq_true p223);(replace q223 := eq_true q223);(have p224 : 0 ≤ (x5_1 : Int) := of_decide_eq_true (by first | (with_reducible assumption) | assumption));(have q224 : x5_1 < (l0.length : Int) := of_decide_eq_true (by first | (with_reducible assumption) | assumption));(obtain ⟨ad224, A224_1, c224_1, e224, hx224_0, hx224_1, hx224_2, hl224_1, hi224_1⟩ := at_T67 HR0.out x5_1 p224 q224);(obtain rfl : ad223 = ad224 := (by injection e224));(have HR224_1 := Aside0.mk hi224_1);(have HC224_1 := Aside0.mk hl224_1);(clear hi224_1 hl224_1);(replace p224 := eq_true p224);(replace q224 := eq_true q224);(have ea_ := Option.some.inj (hx223_1.symm.trans hx224_1));(injection ea_ with ea_ en_ ec_);(subst ea_);(subst ec_);(clear en_);(have p225 : 0 ≤ (x6_3 : Int) := of_decide_eq_true (by first | (with_reducible assumption) | assumption));(have q225 : x6_3 < (((rd_T67 l0 x5_1).f1).length : Int) := of_decide_eq_true (by first | (with_reducible assumption) | assumption));(obtain ⟨ad225, e225, hx225_0⟩ := Kd.at_int HR224_1.out x6_3 p225 q225);(cases e225);(replace p225 := eq_true p225);(replace q225 := eq_true q225);(have p226 : 0 ≤ (x5_1 : Int) := of_decide_eq_true (by first | (with_reducible assumption) | assumption));(have q226 : x5_1 < (l1.length : Int) := of_decide_eq_true (by first | (with_reducible assumption) | assumption));(obtain ⟨ad226, A226_1, c226_1, e226, hx226_0, hx226_1, hx226_2, hl226_1, hi226_1⟩ := at_T67 HR1.out x5_1 p226 q226);(cases e226);(have HR226_1 := Aside0.mk hi226_1);(have HC226_1 := Aside0.mk hl226_1);(clear hi226_1 hl226_1);(replace p226 := eq_true p226);(replace q226 := eq_true q226);(have p227 : 0 ≤ (x6_3 : Int) := of_decide_eq_true (by first | (with_reducible assumption) | assumption));(have q227 : x6_3 < (((rd_T67 l1 x5_1).f1).length : Int) := of_decide_eq_true (by first | (with_reducible assumption) | assumption));(obtain ⟨ad227, e227, hx227_0⟩ := Kd.at_int HR226_1.out x6_3 p227 q227);(cases e227);(replace p227 := eq_true p227);(replace q227 := eq_true q227)
                  go_wp2
                  repeat (go_quiet (fail); try go_wp2)
                  go_roundg k3
                  case measure => have := HK1.out; have := HJ4.out; have := HK3.out; omega
                  case rel => exact ⟨(wrap64 (x6_3 + 1)), (by first | rfl | (simp; done) | (simp [*]; done)), H', ⟨by have := HK1.out; have := HJ4.out; have := HK3.out; omega⟩, by repeat (first | exact Drawn0.refl _ | apply Drawn0.step)⟩
                ·(rw [if_neg c17] at H);(have c17b0 : ((rd ((rd_T67 l0 x5_1).f1) x6_3) == (rd ((rd_T67 l1 x5_1).f1) x6_3)) = false := beq_eq_false_iff_ne.mpr c17);(have c17b1 : ((rd ((rd_T67 l0 x5_1).f1) x6_3) != (rd ((rd_T67 l1 x5_1).f1) x6_3)) = true := bne_iff_ne.mpr c17)
                 as_aux_lemma =>
                  (obtain rfl := Option.some.inj H);(have p223 : 0 ≤ (x5_1 : Int) := of_decide_eq_true (by first | (with_reducible assumption) | assumption));(have q223 : x5_1 < (l0.length : Int) := of_decide_eq_true (by first | (with_reducible assumption) | assumption));(obtain ⟨ad223, A223_1, c223_1, e223, hx223_0, hx223_1, hx223_2, hl223_1, hi223_1⟩ := at_T67 HR0.out x5_1 p223 q223);(cases e223);(have HR223_1 := Aside0.mk hi223_1);(have HC223_1 := Aside0.mk hl223_1);(clear hi223_1 hl223_1);(replace p223 := eq_true p223);(replace q223 := eq_true q223);(have p224 : 0 ≤ (x5_1 : Int) := of_decide_eq_true (by first | (with_reducible assumption) | assumption));(have q224 : x5_1 < (l0.length : Int) := of_decide_eq_true (by first | (with_reducible assumption) | assumption));(obtain ⟨ad224, A224_1, c224_1, e224, hx224_0, hx224_1, hx224_2, hl224_1, hi224_1⟩ := at_T67 HR0.out x5_1 p224 q224);(obtain rfl : ad223 = ad224 := (by injection e224));(have HR224_1 := Aside0.mk hi224_1);(have HC224_1 := Aside0.mk hl224_1);(clear hi224_1 hl224_1);(replace p224 := eq_true p224);(replace q224 := eq_true q224);(have ea_ := Option.some.inj (hx223_1.symm.trans hx224_1));(injection ea_ with ea_ en_ ec_);(subst ea_);(subst ec_);(clear en_);(have p225 : 0 ≤ (x6_3 : Int) := of_decide_eq_true (by first | (with_reducible assumption) | assumption));(have q225 : x6_3 < (((rd_T67 l0 x5_1).f1).length : Int) := of_decide_eq_true (by first | (with_reducible assumption) | assumption));(obtain ⟨ad225, e225, hx225_0⟩ := Kd.at_int HR224_1.out x6_3 p225 q225);(cases e225);(replace p225 := eq_true p225);(replace q225 := eq_true q225);(have p226 : 0 ≤ (x5_1 : Int) := of_decide_eq_true (by first | (with_reducible assumption) | assumption));(have q226 : x5_1 < (l1.length : Int) := of_decide_eq_true (by first | (with_reducible assumption) | assumption));(obtain ⟨ad226, A226_1, c226_1, e226, hx226_0, hx226_1, hx226_2, hl226_1, hi226_1⟩ := at_T67 HR1.out x5_1 p226 q226);(cases e226);(have HR226_1 := Aside0.mk hi226_1);(have HC226_1 := Aside0.mk hl226_1);(clear hi226_1 hl226_1);(replace p226 := eq_true p226);(replace q226 := eq_true q226);(have p227 : 0 ≤ (x6_3 : Int) := of_decide_eq_true (by first | (with_reducible assumption) | assumption));(have q227 : x6_3 < (((rd_T67 l1 x5_1).f1).length : Int) := of_decide_eq_true (by first | (with_reducible assumption) | assumption));(obtain ⟨ad227, e227, hx227_0⟩ := Kd.at_int HR226_1.out x6_3 p227 q227);(cases e227);(replace p227 := eq_true p227);(replace q227 := eq_true q227)
                  go_wp2
                  repeat (go_quiet (fail); try go_wp2)
                  go_ret
                  exact ⟨by first | rfl | (simp; done) | (simp [*]; done), by repeat (first | exact Drawn0.refl _ | apply Drawn0.step)⟩
               ·(rw [if_neg c16] at H);(exact absurd H (by simp))
              ·(rw [if_neg c15] at H);(exact absurd H (by simp))
             ·(rw [if_neg c14] at H);(exact absurd H (by simp))
            ·(rw [if_neg c13] at H);(have c13b0 : decide (x6_3 < (((rd_T67 l0 x5_1).f1).length : Int)) = false := decide_eq_false c13);(clear c13)
             as_aux_lemma =>
              (have H' := Aside0.mk H);(clear H);(have p223 : 0 ≤ (x5_1 : Int) := of_decide_eq_true (by first | (with_reducible assumption) | assumption));(have q223 : x5_1 < (l0.length : Int) := of_decide_eq_true (by first | (with_reducible assumption) | assumption));(obtain ⟨ad223, A223_1, c223_1, e223, hx223_0, hx223_1, hx223_2, hl223_1, hi223_1⟩ := at_T67 HR0.out x5_1 p223 q223);(cases e223);(have HR223_1 := Aside0.mk hi223_1);(have HC223_1 := Aside0.mk hl223_1);(clear hi223_1 hl223_1);(replace p223 := eq_true p223);(replace q223 := eq_true q223)
              go_wp2
              repeat (go_quiet (fail); try go_wp2)
              go_roundg k3
              case measure => have := HK1.out; have := HJ4.out; have := HK3.out; omega
              case rel => exact ⟨(wrap64 (x5_1 + 1)), (by first | rfl | (simp; done) | (simp [*]; done)), H', ⟨by have := HK1.out; have := HJ4.out; have := HK3.out; omega⟩, by repeat (first | exact Drawn0.refl _ | apply Drawn0.step)⟩
           ·(rw [if_neg c12] at H);(exact absurd H (by simp))
          ·(rw [if_neg c11] at H);(exact absurd H (by simp))
    ·(rw [if_neg c4] at H);(have c4b0 : decide (x5_1 < (l0.length : Int)) = false := decide_eq_false c4);(clear c4)
     as_aux_lemma =>
      obtain rfl := Option.some.inj H
      go_wp2
      repeat (go_quiet (fail); try go_wp2)
      go_ret
      exact ⟨by first | rfl | (simp; done) | (simp [*]; done), by repeat (first | exact Drawn0.refl _ | apply Drawn0.step)⟩
 ·rw [if_neg c3] at H
  have c3b0 : ((l0.length : Int) == (l1.length : Int)) = false := beq_eq_false_iff_ne.mpr c3
  have c3b1 : ((l0.length : Int) != (l1.length : Int)) = true := bne_iff_ne.mpr c3
  have c3b2 : (l0.length == l1.length) = false := by first | simpa using c3 | (simp at c3 ⊢; omega)
  as_aux_lemma =>
   obtain rfl := Option.some.inj H
   go_enter Try.func17, Try.ntmps17
   go_wp2
   repeat (go_quiet (fail); try go_wp2)
   go_ret
   exact ⟨by first | rfl | (simp; done) | (simp [*]; done), by repeat (first | exact Drawn0.refl _ | apply Drawn0.step)⟩
end Go.Proofs.Ytnjdjnoncoeffaa.PDecompTwice
