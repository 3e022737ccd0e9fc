/- For the law PlainBlocks, for every input: printed by a program (wip/myprint), contracts by hand where it says MANUAL. -/
-- slim5
-- slim
import Derived.Test.YtdiaedecnfbgdaaPPlainBlocksx0
namespace Go.Proofs.Ytdiaedecnfbgdaa.PPlainBlocks
open Go.RowKit Go.Proofs.YtdiaedecnfbgdaaW.PrintWords Go.Proofs.YtdiaedecnfbgdaaW.PrintLast Go.Proofs.YtdiaedecnfbgdaaW.PrintMore
attribute [local go_sem] max2_int min2_int max_two min_two max_three min_three max_four min_four
set_option linter.unusedVariables false
set_option linter.unusedSimpArgs false
/-! ### num_Add: function 55 -/
def num_Add.f (a0 : Int) (a1 : Int) : Option (Int × Int) := if (wrap64 (a0 + a1)) > a0 then (if a1 > 0 then (some (wrap64 (a0 + a1), 0)) else (if a1 = 0 then (some (wrap64 (a0 + a1), 0)) else (some (0, 3)))) else (if a1 > 0 then (if a1 = 0 then (some (wrap64 (a0 + a1), 0)) else (some (0, 3))) else (some (wrap64 (a0 + a1), 0)))
set_option maxHeartbeats 8000000 in
set_option maxRecDepth 100000 in
theorem num_Add.calls (a0 : Int) (a1 : Int) (r1 : Int) (r2 : Int) (w : World) (h : num_Add.f a0 a1 = some (r1, r2)) :
  Calls Try.prog 55 #[.int .i64 a0, .int .i64 a1] w fun e w' => e = .returned (.tuple #[.int .i64 r1, .int .i64 r2]) ∧ Drawn0 w w' := by
 (have H : (if (wrap64 (a0 + a1)) > a0 then (if a1 > 0 then (some (wrap64 (a0 + a1), 0)) else (if a1 = 0 then (some (wrap64 (a0 + a1), 0)) else (some (0, 3)))) else (if a1 > 0 then (if a1 = 0 then (some (wrap64 (a0 + a1), 0)) else (some (0, 3))) else (some (wrap64 (a0 + a1), 0)))) = some (r1, r2) := h); clear h; (by_cases c3 : (wrap64 (a0 + a1)) > a0)
 ·rw [if_pos c3] at H
  (have c3b0 : decide (a0 < (wrap64 (a0 + a1))) = true := decide_eq_true c3); clear c3; (by_cases c4 : a1 > 0)
  ·rw [if_pos c4] at H
   (have c4b0 : decide (0 < a1) = true := decide_eq_true c4);(clear c4)
   as_aux_lemma =>
    ((simp only [Option.some.injEq, Prod.mk.injEq] at H);(obtain ⟨rfl, rfl⟩ := H)); (go_enter Try.func55, Try.ntmps55); (go_wp2); (go_ret2); (exact ⟨by first | rfl | (simp; done) | (simp [*]; done), by repeat (first | exact Drawn0.refl _ | apply Drawn0.step)⟩)
  ·rw [if_neg c4] at H
   ((have c4b0 : decide (0 < a1) = false := decide_eq_false c4);(clear c4)); (by_cases c5 : a1 = 0)
   ·(rw [if_pos c5] at H);(have c5b0 : (a1 == 0) = true := beq_iff_eq.mpr c5);(have c5b1 : (a1 != 0) = false := bne_eq_false_iff_eq.mpr c5);(clear c5)
    as_aux_lemma =>
     ((simp only [Option.some.injEq, Prod.mk.injEq] at H);(obtain ⟨rfl, rfl⟩ := H)); (go_enter Try.func55, Try.ntmps55); (go_wp2); (go_ret2); (exact ⟨by first | rfl | (simp; done) | (simp [*]; done), by repeat (first | exact Drawn0.refl _ | apply Drawn0.step)⟩)
   ·(rw [if_neg c5] at H);(have c5b0 : (a1 == 0) = false := beq_eq_false_iff_ne.mpr c5);(have c5b1 : (a1 != 0) = true := bne_iff_ne.mpr c5)
    as_aux_lemma =>
     ((simp only [Option.some.injEq, Prod.mk.injEq] at H);(obtain ⟨rfl, rfl⟩ := H)); (go_enter Try.func55, Try.ntmps55); (go_wp2); (go_ret2); (exact ⟨by first | rfl | (simp; done) | (simp [*]; done), by repeat (first | exact Drawn0.refl _ | apply Drawn0.step)⟩)
 ·rw [if_neg c3] at H
  (have c3b0 : decide (a0 < (wrap64 (a0 + a1))) = false := decide_eq_false c3); clear c3; (by_cases c6 : a1 > 0)
  ·rw [if_pos c6] at H
   ((have c6b0 : decide (0 < a1) = true := decide_eq_true c6);(clear c6)); (by_cases c7 : a1 = 0)
   ·(rw [if_pos c7] at H);(have c7b0 : (a1 == 0) = true := beq_iff_eq.mpr c7);(have c7b1 : (a1 != 0) = false := bne_eq_false_iff_eq.mpr c7);(clear c7)
    as_aux_lemma =>
     ((simp only [Option.some.injEq, Prod.mk.injEq] at H);(obtain ⟨rfl, rfl⟩ := H)); (go_enter Try.func55, Try.ntmps55); (go_wp2); (go_ret2); (exact ⟨by first | rfl | (simp; done) | (simp [*]; done), by repeat (first | exact Drawn0.refl _ | apply Drawn0.step)⟩)
   ·(rw [if_neg c7] at H);(have c7b0 : (a1 == 0) = false := beq_eq_false_iff_ne.mpr c7);(have c7b1 : (a1 != 0) = true := bne_iff_ne.mpr c7)
    as_aux_lemma =>
     ((simp only [Option.some.injEq, Prod.mk.injEq] at H);(obtain ⟨rfl, rfl⟩ := H)); (go_enter Try.func55, Try.ntmps55); (go_wp2); (go_ret2); (exact ⟨by first | rfl | (simp; done) | (simp [*]; done), by repeat (first | exact Drawn0.refl _ | apply Drawn0.step)⟩)
  ·rw [if_neg c6] at H
   (have c6b0 : decide (0 < a1) = false := decide_eq_false c6);(clear c6)
   as_aux_lemma =>
    ((simp only [Option.some.injEq, Prod.mk.injEq] at H);(obtain ⟨rfl, rfl⟩ := H)); (go_enter Try.func55, Try.ntmps55); (go_wp2); (go_ret2); (exact ⟨by first | rfl | (simp; done) | (simp [*]; done), by repeat (first | exact Drawn0.refl _ | apply Drawn0.step)⟩)
/-! ### net_Check: function 42 -/
-- MANUAL: this contract was written by hand.
/-- MANUAL. The arcs that are left, and the sum of those ahead. -/
def chkArcs (nodes : Int) : List S30 → Int → Option Int
 | [], _ => some 0
 | a :: t, s =>
  if -9223372036854775808 ≤ a.f2 ∧ a.f2 ≤ 9223372036854775807 then
   if 1 ≤ a.f0 ∧ a.f0 ≤ nodes ∧ 1 ≤ a.f1 ∧ a.f1 ≤ nodes then
    if a.f2 < 0 then some 3 else if 4611686018427387903 < s + a.f2 then some 7 else chkArcs nodes t (s + a.f2)
   else some 4
  else none
def net_Check.f (a0_0 a0_1 a0_2 : Int) (l0_3 : List S30) : Option Int :=
 if a0_0 < 2 ∨ 500 < a0_0 then some 3
 else if ¬ (1 ≤ a0_1 ∧ a0_1 ≤ a0_0 ∧ 1 ≤ a0_2 ∧ a0_2 ≤ a0_0) then some 4
 else if a0_1 = a0_2 then some 5
 else if 2000 < l0_3.length then some 6
 else chkArcs a0_0 l0_3 0
set_option maxRecDepth 100000 in
theorem there_yes (v n : Int) (g : Nat) (w : World) (hc : w.cell? ⟨g, 0, none⟩ = some (.int .i64 n)) (h1 : 1 ≤ v) (h2 : v ≤ n) :
  Calls Try.prog 54 #[.int .i64 v, .pointer (some ⟨g, 0, none⟩)] w fun e w' => e = .returned (.bool true) ∧ w = w' := by
 (have hu26 := Try.underlying26); (go_enter Try.func54, Try.ntmps54); (go_wp2); (go_ret); (exact ⟨rfl, rfl⟩)
set_option maxRecDepth 100000 in
theorem there_no (v n : Int) (g : Nat) (w : World) (hc : w.cell? ⟨g, 0, none⟩ = some (.int .i64 n)) (h : v < 1 ∨ n < v) :
  Calls Try.prog 54 #[.int .i64 v, .pointer (some ⟨g, 0, none⟩)] w fun e w' => e = .returned (.bool false) ∧ w = w' := by
 (have hu26 := Try.underlying26); (by_cases h1 : v < 1); (·(go_enter Try.func54, Try.ntmps54); (go_wp2); (go_ret); (exact ⟨rfl, rfl⟩)); (·(have h1' : 1 ≤ v := by omega); (have h2 : n < v := by omega); (have h3 : decide (v ≤ n) = false := by simp; omega); clear h h1; (go_enter Try.func54, Try.ntmps54); (go_wp2); (go_ret); (exact ⟨rfl, rfl⟩))
theorem heap_new (w : World) (o : Obj) : (w.alloc o).heap[w.heap.size]? = some o := by unfold World.alloc; simp
theorem add_some (s c : Int) : ∃ m e, num_Add.f s c = some (m, e) := by
 (unfold num_Add.f); ((repeat' split) <;> exact ⟨_, _, rfl⟩)
theorem add_fit {s c : Int} (h0 : 0 ≤ s) (h1 : s ≤ 4611686018427387903) (c0 : 0 ≤ c) (h : ¬ 4611686018427387903 < s + c) : num_Add.f s c = some (s + c, 0) := by
 (have e : wrap64 (s + c) = s + c := by unfold wrap64; omega); (unfold num_Add.f); (rw [e]); ((repeat' split) <;> first | rfl | (exfalso; omega))
theorem add_neg {s c : Int} (h0 : 0 ≤ s) (h1 : s ≤ 4611686018427387903) (c0 : c < 0) (c1 : -9223372036854775808 ≤ c) : num_Add.f s c = some (s + c, 0) := by
 (have e : wrap64 (s + c) = s + c := by unfold wrap64; omega); (unfold num_Add.f); (rw [e]); ((repeat' split) <;> first | rfl | (exfalso; omega))
theorem add_big {s c : Int} (h0 : 0 ≤ s) (h1 : s ≤ 4611686018427387903) (c0 : 0 ≤ c) (c1 : c ≤ 9223372036854775807) (h : 4611686018427387903 < s + c) :
  (num_Add.f s c = some (s + c, 0)) ∨ num_Add.f s c = some (0, 3) := by
 by_cases hf : s + c ≤ 9223372036854775807
 ·have e : wrap64 (s + c) = s + c := by unfold wrap64; omega
  left
  (unfold num_Add.f); (rw [e]); ((repeat' split) <;> first | rfl | (exfalso; omega))
 ·have e : wrap64 (s + c) = s + c - 18446744073709551616 := by unfold wrap64; omega
  right
  (unfold num_Add.f); (rw [e]); ((repeat' split) <;> first | rfl | (exfalso; omega))
set_option maxHeartbeats 8000000 in
set_option maxRecDepth 100000 in
theorem net_Check.calls (a0_0 a0_1 a0_2 : Int) (A0_3 : Option Addr) (c0_3 : Nat) (l0_3 : List S30) (r : Int) (w : World) (hr0_3 : Kd.C k30 w A0_3 l0_3.length l0_3) (hc0_3 : l0_3.length ≤ c0_3) (h : net_Check.f a0_0 a0_1 a0_2 l0_3 = some r) :
  Calls Try.prog 42 #[.agg #[.int .i64 a0_0, .int .i64 a0_1, .int .i64 a0_2, .slice A0_3 l0_3.length c0_3]] w fun e w' => e = .returned (.int .i64 r) ∧ Below w.heap.size w w' := by
 (have hu26 := Try.underlying26); (have hu28 := Try.underlying30); (have hmf : ∀ (fn : Fn) (first cap : Array Value) (w : World), (Instr.makeFunc fn first cap).run Try.prog w = .ok (.func fn first cap) w := fun _ _ _ _ => rfl); (have HR := Aside0.mk hr0_3); clear hr0_3; (unfold net_Check.f at h); (by_cases c1 : a0_0 < 2); (·(rw [if_pos (Or.inl c1)] at h); (obtain rfl := Option.some.inj h); (go_enter Try.func42, Try.ntmps42); (go_wp2); (go_ret); (exact ⟨rfl, (Below.refl _ _).alloc (Nat.le_refl _) _⟩)); (by_cases c2 : 500 < a0_0); (·(rw [if_pos (Or.inr c2)] at h); (obtain rfl := Option.some.inj h); (go_enter Try.func42, Try.ntmps42); (go_wp2); (go_ret); (exact ⟨rfl, (Below.refl _ _).alloc (Nat.le_refl _) _⟩)); (rw [if_neg (by omega)] at h); (have HB0 := Aside0.mk ((Below.refl w.heap.size w).alloc (Nat.le_refl _) (.cells #[.int .i64 a0_0, .int .i64 a0_1, .int .i64 a0_2, .slice A0_3 l0_3.length c0_3] 26))); (by_cases c3 : 1 ≤ a0_1 ∧ a0_1 ≤ a0_0)
 ·by_cases c4 : 1 ≤ a0_2 ∧ a0_2 ≤ a0_0
  ·rw [if_neg (by omega)] at h
   ((obtain ⟨c3a, c3b⟩ := c3);(obtain ⟨c4a, c4b⟩ := c4)); (by_cases c5 : a0_1 = a0_2); (·((rw [if_pos c5] at h);(obtain rfl := Option.some.inj h);(subst c5)); (go_enter Try.func42, Try.ntmps42); (go_wp2_with (go_at_call 54; refine (there_yes _ a0_0 _ _ (by go_simp) (by assumption) (by assumption)).mono ?_; rintro e w' ⟨rfl, rfl⟩)); (go_ret); (exact ⟨rfl, HB0.out⟩))
   ·(rw [if_neg c5] at h);(have c5b : (a0_1 == a0_2) = false := beq_eq_false_iff_ne.mpr c5)
    (by_cases c6 : 2000 < l0_3.length); (·((rw [if_pos c6] at h);(obtain rfl := Option.some.inj h)); (go_enter Try.func42, Try.ntmps42); (go_wp2_with (go_at_call 54; refine (there_yes _ a0_0 _ _ (by go_simp) (by assumption) (by assumption)).mono ?_; rintro e w' ⟨rfl, rfl⟩)); (go_ret); (exact ⟨rfl, HB0.out⟩))
    ·(rw [if_neg c6] at h);(have H := Aside0.mk h);(clear h)
     (go_enter Try.func42, Try.ntmps42); (go_wp2_with (go_at_call 54; refine (there_yes _ a0_0 _ _ (by go_simp) (by assumption) (by assumption)).mono ?_; rintro e w' ⟨rfl, rfl⟩)); (go_loopg [4, 46] (l0_3.length + 1) (fun kq v4 v46 wr => ∃ (k : Nat) (s : Int), v46 = .int .i64 k ∧ v4 = .int .i64 s ∧ Aside0 (k + kq = l0_3.length + 1 ∧ 0 < kq) ∧ 0 ≤ s ∧ s ≤ 4611686018427387903 ∧ Aside0 (chkArcs a0_0 (l0_3.drop k) s = some r) ∧ Aside0 (wr.heap[w.heap.size]? = some (.cells #[.int .i64 a0_0, .int .i64 a0_1, .int .i64 a0_2, .slice A0_3 l0_3.length c0_3] 26 (0, 0))) ∧ Aside0 (Below w.heap.size w wr)))
     case atStart => exact ⟨0, 0, rfl, rfl, ⟨by omega⟩, by omega, by omega, ⟨by rw [List.drop_zero]; exact H.out⟩, ⟨heap_new _ _⟩, HB0⟩
     case round =>
      ((obtain ⟨k, s, rfl, rfl, HK, hs0, hs1, HA, BK, HB⟩ := hrel);(have hz := blk_lt BK.out);(have hcz0 : wr.cell? ⟨w.heap.size, 0, none⟩ = some (.int .i64 a0_0) := (blk_cell BK.out 0).trans rfl)); (by_cases hlt : k < l0_3.length)
      ·(obtain ⟨ad, ead, hx0, hx1, hx2⟩ := at_T30 HR.out (k : Int) (by omega) (by omega));(cases ead)
       have hd : l0_3.drop k = rd_T30 l0_3 (k : Int) :: l0_3.drop (k + 1) := by
        rw [List.drop_eq_getElem_cons hlt]; simp [rd_T30, hlt]
       ((have hA := HA.out);(rw [hd] at hA);(clear hd HA);(generalize rd_T30 l0_3 (k : Int) = a at *);(replace hx0 := (HB.out.cell (World.block_lt_of_cell? w _ hx0)).trans hx0);(replace hx1 := (HB.out.cell (World.block_lt_of_cell? w _ hx1)).trans hx1);(replace hx2 := (HB.out.cell (World.block_lt_of_cell? w _ hx2)).trans hx2);(rw [Int.toNat_natCast] at hx0 hx1 hx2);(unfold chkArcs at hA)); (by_cases b0 : -9223372036854775808 ≤ a.f2 ∧ a.f2 ≤ 9223372036854775807)
       ·(rw [if_pos b0] at hA);(obtain ⟨b0a, b0b⟩ := b0)
        by_cases b1 : 1 ≤ a.f0 ∧ a.f0 ≤ a0_0
        ·obtain ⟨b1a, b1b⟩ := b1
         by_cases b2 : 1 ≤ a.f1 ∧ a.f1 ≤ a0_0
         ·(obtain ⟨b2a, b2b⟩ := b2);(rw [if_pos ⟨b1a, b1b, b2a, b2b⟩] at hA)
          (by_cases b3 : a.f2 < 0); (·((rw [if_pos b3] at hA);(obtain rfl := Option.some.inj hA);(have HM := Aside0.mk (add_neg hs0 hs1 b3 b0a))); (go_wp2_with (first | (go_at_call 55; refine (num_Add.calls s a.f2 _ _ _ HM.out).mono ?_; rintro e w' ⟨rfl, ⟨⟨nd, rfl⟩⟩⟩) | (go_at_call 54; refine (there_yes _ a0_0 _ _ (by go_simp) (by assumption) (by assumption)).mono ?_; rintro e w' ⟨rfl, rfl⟩))); (go_ret); (exact ⟨rfl, by repeat (first | (with_reducible first | exact HB.out | apply below_alloc | apply pw_below_drewN | apply below_drew1) | exact HB.out)⟩))
          ·(rw [if_neg b3] at hA);(have b3' : 0 ≤ a.f2 := by omega);(clear b3)
           by_cases b4 : 4611686018427387903 < s + a.f2
           ·(rw [if_pos b4] at hA);(obtain rfl := Option.some.inj hA);(have hfit := add_big hs0 hs1 b3' b0b b4);(rcases hfit with hm | hm)
            (·((have HM := Aside0.mk hm);(clear hm)); (go_wp2_with (first | (go_at_call 55; refine (num_Add.calls s a.f2 _ _ _ HM.out).mono ?_; rintro e w' ⟨rfl, ⟨⟨nd, rfl⟩⟩⟩) | (go_at_call 54; refine (there_yes _ a0_0 _ _ (by go_simp) (by assumption) (by assumption)).mono ?_; rintro e w' ⟨rfl, rfl⟩))); (go_ret); (exact ⟨rfl, by repeat (first | (with_reducible first | exact HB.out | apply below_alloc | apply pw_below_drewN | apply below_drew1) | exact HB.out)⟩)); (·((have HM := Aside0.mk hm);(clear hm)); (go_wp2_with (first | (go_at_call 55; refine (num_Add.calls s a.f2 _ _ _ HM.out).mono ?_; rintro e w' ⟨rfl, ⟨⟨nd, rfl⟩⟩⟩) | (go_at_call 54; refine (there_yes _ a0_0 _ _ (by go_simp) (by assumption) (by assumption)).mono ?_; rintro e w' ⟨rfl, rfl⟩))); (go_ret); (exact ⟨rfl, by repeat (first | (with_reducible first | exact HB.out | apply below_alloc | apply pw_below_drewN | apply below_drew1) | exact HB.out)⟩))
           ·(rw [if_neg b4] at hA);(have HM := Aside0.mk (add_fit hs0 hs1 b3' b4));(have b5 : 0 ≤ s + a.f2 := by omega);(have b6 : s + a.f2 ≤ 4611686018427387903 := by omega);(have HA := Aside0.mk hA);(clear hA b4)
            (go_wp2_with (first | (go_at_call 55; refine (num_Add.calls s a.f2 _ _ _ HM.out).mono ?_; rintro e w' ⟨rfl, ⟨⟨nd, rfl⟩⟩⟩) | (go_at_call 54; refine (there_yes _ a0_0 _ _ (by go_simp) (by assumption) (by assumption)).mono ?_; rintro e w' ⟨rfl, rfl⟩))); (obtain ⟨hk1, hk2⟩ := HK.out); (go_roundg (gk - 1))
            case measure => omega
            case rel => exact ⟨k + 1, s + a.f2, by first | rfl | go_num, rfl, ⟨by omega⟩, b5, b6, HA, ⟨by (with_reducible repeat first | refine blk_drewN ?_ _ | refine blk_drew ?_ | refine blk_alloc ?_ _); exact BK.out⟩, ⟨by repeat (first | (with_reducible first | exact HB.out | apply below_alloc | apply pw_below_drewN | apply below_drew1) | exact HB.out)⟩⟩
         (·((rw [if_neg (by omega)] at hA);(obtain rfl := Option.some.inj hA);(obtain ⟨m, e, hm⟩ := add_some s a.f2);(have HM := Aside0.mk hm);(clear hm)); (go_wp2_with (first | (go_at_call 55; refine (num_Add.calls s a.f2 _ _ _ HM.out).mono ?_; rintro e w' ⟨rfl, ⟨⟨nd, rfl⟩⟩⟩) | (go_at_call 54; first | ((with_reducible refine (there_yes a.f0 a0_0 _ _ ?sc b1a b1b).mono ?_); (case sc => go_simp); rintro e w' ⟨rfl, rfl⟩) | ((with_reducible refine (there_no a.f1 a0_0 _ _ ?sc ?sb).mono ?_); (case sc => go_simp); (case sb => omega); rintro e w' ⟨rfl, rfl⟩)))); (go_ret); (exact ⟨rfl, by repeat (first | (with_reducible first | exact HB.out | apply below_alloc | apply pw_below_drewN | apply below_drew1) | exact HB.out)⟩))
        (·((rw [if_neg (by omega)] at hA);(obtain rfl := Option.some.inj hA);(obtain ⟨m, e, hm⟩ := add_some s a.f2);(have HM := Aside0.mk hm);(clear hm)); (go_wp2_with (first | (go_at_call 55; refine (num_Add.calls s a.f2 _ _ _ HM.out).mono ?_; rintro e w' ⟨rfl, ⟨⟨nd, rfl⟩⟩⟩) | (go_at_call 54; refine (there_no a.f0 a0_0 _ _ (by go_simp) (by omega)).mono ?_; rintro e w' ⟨rfl, rfl⟩))); (go_ret); (exact ⟨rfl, by repeat (first | (with_reducible first | exact HB.out | apply below_alloc | apply pw_below_drewN | apply below_drew1) | exact HB.out)⟩))
       ·rw [if_neg b0] at hA; exact absurd hA (by simp)
      (·((have hkl : k = l0_3.length := by have := HK.out; omega);(have hA := HA.out);(rw [hkl, List.drop_length] at hA);(obtain rfl := Option.some.inj (show some 0 = some r from hA));(clear hkl hA HA)); (go_wp2); (go_ret); (exact ⟨rfl, by repeat (first | (with_reducible first | exact HB.out | apply below_alloc | apply pw_below_drewN | apply below_drew1) | exact HB.out)⟩))
  (·(rw [if_pos (by omega)] at h); ((obtain rfl := Option.some.inj h);(obtain ⟨c3a, c3b⟩ := c3)); (go_enter Try.func42, Try.ntmps42); (go_wp2_with (go_at_call 54; first | ((with_reducible refine (there_yes a0_1 a0_0 _ _ ?sc c3a c3b).mono ?_); (case sc => go_simp); rintro e w' ⟨rfl, rfl⟩) | ((with_reducible refine (there_no a0_2 a0_0 _ _ ?sc ?sb).mono ?_); (case sc => go_simp); (case sb => omega); rintro e w' ⟨rfl, rfl⟩))); (go_ret); (exact ⟨rfl, HB0.out⟩))
 (·(rw [if_pos (by omega)] at h); (obtain rfl := Option.some.inj h); (go_enter Try.func42, Try.ntmps42); (go_wp2_with (go_at_call 54; refine (there_no a0_1 a0_0 _ _ (by go_simp) (by omega)).mono ?_; rintro e w' ⟨rfl, rfl⟩)); (go_ret); (exact ⟨rfl, HB0.out⟩))
end Go.Proofs.Ytdiaedecnfbgdaa.PPlainBlocks
