/- For the law ResidualTells, for every input: printed by a program (wip/myprint), contracts by hand where it says MANUAL. -/
-- slim
import Derived.Test.YtbppeffcikphcaaPResidualTellsx0
namespace Go.Proofs.Ytbppeffcikphcaa.PResidualTells
open Go.RowKit Go.Proofs.YtbppeffcikphcaaW.PrintWords Go.Proofs.YtbppeffcikphcaaW.PrintLast Go.Proofs.YtbppeffcikphcaaW.PrintMore
attribute [local go_sem] max2_int min2_int max_two min_two max_three min_three max_four min_four
set_option linter.unusedVariables false
set_option linter.unusedSimpArgs false
/-! ### racewayref3_Check: function 58 -/
mutual
def racewayref3_Check.j0 : Nat → Bool → Int → Int → Int → List (S49) → Option (Int)
 | 0, _, _, _, _, _ => none
 | k + 1, x13, x172000, x172001, x172002, x172003 => if x13 = true then (some 3) else (if x172001 < 1 then (racewayref3_Check.j1 k true x172000 x172001 x172002 x172003) else (if x172001 > x172000 then (racewayref3_Check.j1 k true x172000 x172001 x172002 x172003) else (if x172002 < 1 then (racewayref3_Check.j1 k true x172000 x172001 x172002 x172003) else (racewayref3_Check.j1 k (decide (x172002 > x172000)) x172000 x172001 x172002 x172003))))
def racewayref3_Check.j1 : Nat → Bool → Int → Int → Int → List (S49) → Option (Int)
 | 0, _, _, _, _, _ => none
 | k + 1, x35, x172000, x172001, x172002, x172003 => if x35 = true then (some 4) else (if x172001 = x172002 then (some 5) else (if (x172003.length : Int) > 2000 then (some 6) else (racewayref3_Check.l0 k 4611686018427387903 0 x172000 x172001 x172002 x172003)))
def racewayref3_Check.l0 : Nat → Int → Int → Int → Int → Int → List (S49) → Option (Int)
 | 0, _, _, _, _, _, _ => none
 | k + 1, x3, x4, x172000, x172001, x172002, x172003 => if x4 < (x172003.length : Int) then (if 0 ≤ x4 then (if ((rd_T49 x172003 x4).f0) < 1 then (racewayref3_Check.j3 k x3 x4 true x172000 x172001 x172002 x172003 ((rd_T49 x172003 x4).f0) ((rd_T49 x172003 x4).f1) ((rd_T49 x172003 x4).f2)) else (if ((rd_T49 x172003 x4).f0) > x172000 then (racewayref3_Check.j3 k x3 x4 true x172000 x172001 x172002 x172003 ((rd_T49 x172003 x4).f0) ((rd_T49 x172003 x4).f1) ((rd_T49 x172003 x4).f2)) else (if ((rd_T49 x172003 x4).f1) < 1 then (racewayref3_Check.j3 k x3 x4 true x172000 x172001 x172002 x172003 ((rd_T49 x172003 x4).f0) ((rd_T49 x172003 x4).f1) ((rd_T49 x172003 x4).f2)) else (racewayref3_Check.j3 k x3 x4 (decide (((rd_T49 x172003 x4).f1) > x172000)) x172000 x172001 x172002 x172003 ((rd_T49 x172003 x4).f0) ((rd_T49 x172003 x4).f1) ((rd_T49 x172003 x4).f2))))) else (none)) else (some 0)
def racewayref3_Check.j3 : Nat → Int → Int → Bool → Int → Int → Int → List (S49) → Int → Int → Int → Option (Int)
 | 0, _, _, _, _, _, _, _, _, _, _ => none
 | k + 1, x3, x4, x78, x172000, x172001, x172002, x172003, x174000, x174001, x174002 => if x78 = true then (some 4) else (if x174002 < 0 then (some 3) else (if x174002 > x3 then (some 7) else (racewayref3_Check.l0 k (wrap64 (x3 - x174002)) (wrap64 (x4 + 1)) x172000 x172001 x172002 x172003)))
end
def racewayref3_Check.f (k : Nat) (a0_0 : Int) (a0_1 : Int) (a0_2 : Int) (l0_3 : List (S49)) : Option (Int) := if a0_0 < 2 then (racewayref3_Check.j0 k true a0_0 a0_1 a0_2 l0_3) else (racewayref3_Check.j0 k (decide (a0_0 > 500)) a0_0 a0_1 a0_2 l0_3)
theorem racewayref3_Check.mono_l : ∀ k, (∀ y0 y1 y2 y3 y4, LeO (racewayref3_Check.j0 k y0 y1 y2 y3 y4) (racewayref3_Check.j0 (k + 1) y0 y1 y2 y3 y4)) ∧ (∀ y0 y1 y2 y3 y4, LeO (racewayref3_Check.j1 k y0 y1 y2 y3 y4) (racewayref3_Check.j1 (k + 1) y0 y1 y2 y3 y4)) ∧ (∀ y0 y1 y2 y3 y4 y5, LeO (racewayref3_Check.l0 k y0 y1 y2 y3 y4 y5) (racewayref3_Check.l0 (k + 1) y0 y1 y2 y3 y4 y5)) ∧ (∀ y0 y1 y2 y3 y4 y5 y6 y7 y8 y9, LeO (racewayref3_Check.j3 k y0 y1 y2 y3 y4 y5 y6 y7 y8 y9) (racewayref3_Check.j3 (k + 1) y0 y1 y2 y3 y4 y5 y6 y7 y8 y9))
 | 0 => ⟨fun _ _ _ _ _ r h => by simp [racewayref3_Check.j0] at h, fun _ _ _ _ _ r h => by simp [racewayref3_Check.j1] at h, fun _ _ _ _ _ _ r h => by simp [racewayref3_Check.l0] at h, fun _ _ _ _ _ _ _ _ _ _ r h => by simp [racewayref3_Check.j3] at h⟩
 | k + 1 => by
  obtain ⟨ih0, ih1, ih2, ih3⟩ := racewayref3_Check.mono_l k
  refine ⟨?_, ?_, ?_, ?_⟩
  ·intro y0 y1 y2 y3 y4
   unfold racewayref3_Check.j0
   repeat' first
   | (with_reducible exact ih0 _ _ _ _ _)
   | (with_reducible exact ih1 _ _ _ _ _)
   | (with_reducible exact ih2 _ _ _ _ _ _)
   | (with_reducible exact ih3 _ _ _ _ _ _ _ _ _ _)
   | (with_reducible exact LeO.refl _)
   | (with_reducible exact LeO.none _)
   | (with_reducible refine LeO.ite ?_ ?_)
   | (with_reducible refine LeO.bind ?_ (fun _ => ?_))
   | exact ih0 _ _ _ _ _
   | exact ih1 _ _ _ _ _
   | exact ih2 _ _ _ _ _ _
   | exact ih3 _ _ _ _ _ _ _ _ _ _
   | exact LeO.none _
   | refine LeO.ite ?_ ?_
   | refine LeO.bind ?_ (fun _ => ?_)
  ·intro y0 y1 y2 y3 y4
   unfold racewayref3_Check.j1
   repeat' first
   | (with_reducible exact ih0 _ _ _ _ _)
   | (with_reducible exact ih1 _ _ _ _ _)
   | (with_reducible exact ih2 _ _ _ _ _ _)
   | (with_reducible exact ih3 _ _ _ _ _ _ _ _ _ _)
   | (with_reducible exact LeO.refl _)
   | (with_reducible exact LeO.none _)
   | (with_reducible refine LeO.ite ?_ ?_)
   | (with_reducible refine LeO.bind ?_ (fun _ => ?_))
   | exact ih0 _ _ _ _ _
   | exact ih1 _ _ _ _ _
   | exact ih2 _ _ _ _ _ _
   | exact ih3 _ _ _ _ _ _ _ _ _ _
   | exact LeO.none _
   | refine LeO.ite ?_ ?_
   | refine LeO.bind ?_ (fun _ => ?_)
  ·intro y0 y1 y2 y3 y4 y5
   unfold racewayref3_Check.l0
   repeat' first
   | (with_reducible exact ih0 _ _ _ _ _)
   | (with_reducible exact ih1 _ _ _ _ _)
   | (with_reducible exact ih2 _ _ _ _ _ _)
   | (with_reducible exact ih3 _ _ _ _ _ _ _ _ _ _)
   | (with_reducible exact LeO.refl _)
   | (with_reducible exact LeO.none _)
   | (with_reducible refine LeO.ite ?_ ?_)
   | (with_reducible refine LeO.bind ?_ (fun _ => ?_))
   | exact ih0 _ _ _ _ _
   | exact ih1 _ _ _ _ _
   | exact ih2 _ _ _ _ _ _
   | exact ih3 _ _ _ _ _ _ _ _ _ _
   | exact LeO.none _
   | refine LeO.ite ?_ ?_
   | refine LeO.bind ?_ (fun _ => ?_)
  ·intro y0 y1 y2 y3 y4 y5 y6 y7 y8 y9
   unfold racewayref3_Check.j3
   repeat' first
   | (with_reducible exact ih0 _ _ _ _ _)
   | (with_reducible exact ih1 _ _ _ _ _)
   | (with_reducible exact ih2 _ _ _ _ _ _)
   | (with_reducible exact ih3 _ _ _ _ _ _ _ _ _ _)
   | (with_reducible exact LeO.refl _)
   | (with_reducible exact LeO.none _)
   | (with_reducible refine LeO.ite ?_ ?_)
   | (with_reducible refine LeO.bind ?_ (fun _ => ?_))
   | exact ih0 _ _ _ _ _
   | exact ih1 _ _ _ _ _
   | exact ih2 _ _ _ _ _ _
   | exact ih3 _ _ _ _ _ _ _ _ _ _
   | exact LeO.none _
   | refine LeO.ite ?_ ?_
   | refine LeO.bind ?_ (fun _ => ?_)
theorem racewayref3_Check.mono : ∀ a0 a1 a2 a3 k, LeO (racewayref3_Check.f k a0 a1 a2 a3) (racewayref3_Check.f (k + 1) a0 a1 a2 a3) := by
 intro a0 a1 a2 a3 k
 obtain ⟨ih0, ih1, ih2, ih3⟩ := racewayref3_Check.mono_l k
 unfold racewayref3_Check.f
 repeat' first
   | (with_reducible exact ih0 _ _ _ _ _)
   | (with_reducible exact ih1 _ _ _ _ _)
   | (with_reducible exact ih2 _ _ _ _ _ _)
   | (with_reducible exact ih3 _ _ _ _ _ _ _ _ _ _)
   | (with_reducible exact LeO.refl _)
   | (with_reducible exact LeO.none _)
   | (with_reducible refine LeO.ite ?_ ?_)
   | (with_reducible refine LeO.bind ?_ (fun _ => ?_))
   | exact ih0 _ _ _ _ _
   | exact ih1 _ _ _ _ _
   | exact ih2 _ _ _ _ _ _
   | exact ih3 _ _ _ _ _ _ _ _ _ _
   | exact LeO.none _
   | refine LeO.ite ?_ ?_
   | refine LeO.bind ?_ (fun _ => ?_)
set_option maxHeartbeats 8000000 in
set_option maxRecDepth 100000 in
theorem racewayref3_Check.calls (k : Nat) (a0_0 : Int) (a0_1 : Int) (a0_2 : Int) (A0_3 : Option Addr) (c0_3 : Nat) (l0_3 : List (S49)) (r : Int) (w : World) (hr0_3 : Kd.C k49 w A0_3 l0_3.length l0_3) (hc0_3 : l0_3.length ≤ c0_3) (h : racewayref3_Check.f k a0_0 a0_1 a0_2 l0_3 = some r) :
  Calls Try.prog 58 #[.agg #[.int .i64 a0_0, .int .i64 a0_1, .int .i64 a0_2, .slice A0_3 l0_3.length c0_3]] w fun e w' => e = .returned (.int .i64 r) ∧ Below w.heap.size w w' := by
 have hu27 := Try.underlying27
 have hu49 := Try.underlying49
 have HR0_3 := Aside0.mk hr0_3
 have HC0_3 := Aside0.mk hc0_3
 clear hr0_3 hc0_3
 have HB := Aside0.mk (Below.refl w.heap.size w)
 have H : (if a0_0 < 2 then (racewayref3_Check.j0 k true a0_0 a0_1 a0_2 l0_3) else (racewayref3_Check.j0 k (decide (a0_0 > 500)) a0_0 a0_1 a0_2 l0_3)) = some r := h
 clear h
 have HC2 := Aside0.mk H
 clear H
 go_enter Try.func58, Try.ntmps58
 go_upto_region 1 with (first | ((with_reducible refine gate_dst (N := 1) rfl ?_); refine box_event ?hg (N := 1) ?hd (cs := #[.int .i64 a0_0, .int .i64 a0_1, .int .i64 a0_2, .slice A0_3 l0_3.length c0_3]) (t := 27) ?hr ?_; (case hd => rfl); (case hg => rfl); (case hr => first | (go_simp; done) | (go_simp; rfl)); intro gb171 hg w3 hbox hb; have n0_ := Aside0.mk (below_step (by repeat (first | (with_reducible first | exact HB.out | apply below_alloc | apply pw_below_drewN | apply below_drew1) | exact HB.out)) hb); have n1_ := Aside0.mk (hbox); have n2_ := Aside0.mk ((by rw [hg]; exact (below_size (by repeat (first | (with_reducible first | exact HB.out | apply below_alloc | apply pw_below_drewN | apply below_drew1) | exact HB.out))) : w.heap.size ≤ gb171)); have n3_ := Aside0.mk ((by rw [hg]; exact (below_size (by repeat (first | (with_reducible first | exact HB.out | apply below_alloc | apply pw_below_drewN | apply below_drew1) | exact HB.out))) : w.heap.size ≤ gb171)); clear HB; have HB := n0_; have BK171 := n1_; have GW171 := n2_; have GE171 := n3_; clear n0_ n1_ n2_ n3_; clear hb hbox hg))
 (try simp only [Act.put, List.setIfInBounds_toArray, List.set_cons_zero, List.set_cons_succ])
 go_cut [13] (fun v13 wc => ∃ (kq : Nat) (x13_1 : Bool), v13 = .bool x13_1 ∧ Aside0 (racewayref3_Check.j0 kq x13_1 a0_0 a0_1 a0_2 l0_3 = some r) ∧ Aside0 (kq ≤ k) ∧ Aside0 (wc.heap[gb171]? = some (.cells #[.int .i64 a0_0, .int .i64 a0_1, .int .i64 a0_2, (.slice A0_3 l0_3.length c0_3)] 27 (0, 0))) ∧ Aside0 (Below w.heap.size w wc))
 case first =>
  have H := HC2.out
  clear HC2
  by_cases c4 : a0_0 < 2
  ·rw [if_pos c4] at H
   (have c4b0 : decide (a0_0 < 2) = true := decide_eq_true c4);(clear c4);((first | rw [c4b0] | (simp only [i64_w, i32_w]; rw [c4b0]) | skip))
   as_aux_lemma =>
    (have H' := Aside0.mk H);(clear H);(have hcz5_0 : w3.cell? ⟨gb171, 0, none⟩ = some (.int .i64 a0_0) := (blk_cell BK171.out 0).trans rfl);(have hcz5_1 : w3.cell? ⟨gb171, 1, none⟩ = some (.int .i64 a0_1) := (blk_cell BK171.out 1).trans rfl);(have hcz5_2 : w3.cell? ⟨gb171, 2, none⟩ = some (.int .i64 a0_2) := (blk_cell BK171.out 2).trans rfl);(have hcz5_3 : w3.cell? ⟨gb171, 3, none⟩ = some (.slice A0_3 l0_3.length c0_3) := (blk_cell BK171.out 3).trans rfl);(have hfz5_0 := blk_frozen BK171.out 0);(have hfz5_1 := blk_frozen BK171.out 1);(have hfz5_2 := blk_frozen BK171.out 2);(have hfz5_3 := blk_frozen BK171.out 3)
    go_wp2
    go_meet
    case rel => exact ⟨_, (true), (by first | rfl | (simp; done) | (simp [*]; done)), H', ⟨by first | omega | exact Nat.le_refl _⟩, ⟨by (with_reducible repeat first | refine blk_drewN ?_ _ | refine blk_drew ?_ | refine blk_alloc ?_ _); exact BK171.out⟩, ⟨by repeat (first | (with_reducible first | exact HB.out | apply below_alloc | apply pw_below_drewN | apply below_drew1 | refine below_set ?_ GE171.out) | exact HB.out)⟩⟩
  ·rw [if_neg c4] at H
   (have c4b0 : decide (a0_0 < 2) = false := decide_eq_false c4);(clear c4);((first | rw [c4b0] | (simp only [i64_w, i32_w]; rw [c4b0]) | skip))
   as_aux_lemma =>
    (have H' := Aside0.mk H);(clear H);(have hcz6_0 : w3.cell? ⟨gb171, 0, none⟩ = some (.int .i64 a0_0) := (blk_cell BK171.out 0).trans rfl);(have hcz6_1 : w3.cell? ⟨gb171, 1, none⟩ = some (.int .i64 a0_1) := (blk_cell BK171.out 1).trans rfl);(have hcz6_2 : w3.cell? ⟨gb171, 2, none⟩ = some (.int .i64 a0_2) := (blk_cell BK171.out 2).trans rfl);(have hcz6_3 : w3.cell? ⟨gb171, 3, none⟩ = some (.slice A0_3 l0_3.length c0_3) := (blk_cell BK171.out 3).trans rfl);(have hfz6_0 := blk_frozen BK171.out 0);(have hfz6_1 := blk_frozen BK171.out 1);(have hfz6_2 := blk_frozen BK171.out 2);(have hfz6_3 := blk_frozen BK171.out 3)
    go_wp2
    go_meet
    case rel => exact ⟨_, (decide (a0_0 > 500)), (by first | rfl | (simp; done) | (simp [*]; done)), H', ⟨by first | omega | exact Nat.le_refl _⟩, ⟨by (with_reducible repeat first | refine blk_drewN ?_ _ | refine blk_drew ?_ | refine blk_alloc ?_ _); exact BK171.out⟩, ⟨by repeat (first | (with_reducible first | exact HB.out | apply below_alloc | apply pw_below_drewN | apply below_drew1 | refine below_set ?_ GE171.out) | exact HB.out)⟩⟩
 case rest =>
  clear HC2
  try clear p2
  try clear c4
  try clear c4b0
  try clear c5
  try clear hcz5_0
  try clear hcz5_1
  try clear hcz5_2
  try clear hcz5_3
  try clear hcz6_0
  try clear hcz6_1
  try clear hcz6_2
  try clear hcz6_3
  try clear hfz5_0
  try clear hfz5_1
  try clear hfz5_2
  try clear hfz5_3
  try clear hfz6_0
  try clear hfz6_1
  try clear hfz6_2
  try clear hfz6_3
  obtain ⟨kq, x13_1, rfl, HA, HJ1, BK171, HB⟩ := hcut
  cases kq with
  | zero => exact absurd HA.out (by simp [racewayref3_Check.j0])
  | succ kj1 =>
   (have H := HA.out);(clear HA);(simp only [racewayref3_Check.j0] at H)
   by_cases c7 : x13_1 = true
   ·(subst c7);(have H1 : (some 3) = some r := by rw [if_pos rfl] at H; exact H);(clear H);(have H := H1);(clear H1)
    as_aux_lemma =>
     obtain rfl := Option.some.inj H
     go_wp2
     go_ret
     exact ⟨by first | rfl | (simp [errW_none, errW_some] <;> rfl) | (simp [*, errW_none, errW_some] <;> rfl), by repeat (first | (with_reducible first | exact HB.out | apply below_alloc | apply pw_below_drewN | apply below_drew1 | refine below_set ?_ GE171.out) | exact HB.out)⟩
   ·(replace c7 := Bool.eq_false_iff.mpr c7);(subst c7);(have H1 : (if a0_1 < 1 then (racewayref3_Check.j1 kj1 true a0_0 a0_1 a0_2 l0_3) else (if a0_1 > a0_0 then (racewayref3_Check.j1 kj1 true a0_0 a0_1 a0_2 l0_3) else (if a0_2 < 1 then (racewayref3_Check.j1 kj1 true a0_0 a0_1 a0_2 l0_3) else (racewayref3_Check.j1 kj1 (decide (a0_2 > a0_0)) a0_0 a0_1 a0_2 l0_3)))) = some r := by rw [if_neg (show ¬ (false = true) by decide)] at H; exact H);(clear H);(have H := H1);(clear H1);(have HC8 := Aside0.mk H);(clear H)
    go_upto_region 3 with (fail)
    go_cut [35] (fun v35 wc => ∃ (kq : Nat) (x35_7 : Bool), v35 = .bool x35_7 ∧ Aside0 (racewayref3_Check.j1 kq x35_7 a0_0 a0_1 a0_2 l0_3 = some r) ∧ Aside0 (kq ≤ kj1) ∧ Aside0 (wc.heap[gb171]? = some (.cells #[.int .i64 a0_0, .int .i64 a0_1, .int .i64 a0_2, (.slice A0_3 l0_3.length c0_3)] 27 (0, 0))) ∧ Aside0 (Below w.heap.size w wc))
    case first =>
     (have H := HC8.out);(clear HC8)
     by_cases c9 : a0_1 < 1
     ·(rw [if_pos c9] at H);(have c9b0 : decide (a0_1 < 1) = true := decide_eq_true c9);(clear c9);((first | rw [c9b0] | (simp only [i64_w, i32_w]; rw [c9b0]) | skip))
      as_aux_lemma =>
       (have H' := Aside0.mk H);(clear H);(have hcz10_0 : wc.cell? ⟨gb171, 0, none⟩ = some (.int .i64 a0_0) := (blk_cell BK171.out 0).trans rfl);(have hcz10_1 : wc.cell? ⟨gb171, 1, none⟩ = some (.int .i64 a0_1) := (blk_cell BK171.out 1).trans rfl);(have hcz10_2 : wc.cell? ⟨gb171, 2, none⟩ = some (.int .i64 a0_2) := (blk_cell BK171.out 2).trans rfl);(have hcz10_3 : wc.cell? ⟨gb171, 3, none⟩ = some (.slice A0_3 l0_3.length c0_3) := (blk_cell BK171.out 3).trans rfl);(have hfz10_0 := blk_frozen BK171.out 0);(have hfz10_1 := blk_frozen BK171.out 1);(have hfz10_2 := blk_frozen BK171.out 2);(have hfz10_3 := blk_frozen BK171.out 3)
       go_wp2
       go_meet
       case rel => exact ⟨_, (true), (by first | rfl | (simp; done) | (simp [*]; done)), H', ⟨by have := HJ1.out; first | omega | exact Nat.le_refl _⟩, ⟨by (with_reducible repeat first | refine blk_drewN ?_ _ | refine blk_drew ?_ | refine blk_alloc ?_ _); exact BK171.out⟩, ⟨by repeat (first | (with_reducible first | exact HB.out | apply below_alloc | apply pw_below_drewN | apply below_drew1 | refine below_set ?_ GE171.out) | exact HB.out)⟩⟩
     ·(rw [if_neg c9] at H);(have c9b0 : decide (a0_1 < 1) = false := decide_eq_false c9);(clear c9);((first | rw [c9b0] | (simp only [i64_w, i32_w]; rw [c9b0]) | skip))
      by_cases c11 : a0_1 > a0_0
      ·(rw [if_pos c11] at H);(have c11b0 : decide (a0_0 < a0_1) = true := decide_eq_true c11);(clear c11)
       as_aux_lemma =>
        (have H' := Aside0.mk H);(clear H);(have hcz12_0 : wc.cell? ⟨gb171, 0, none⟩ = some (.int .i64 a0_0) := (blk_cell BK171.out 0).trans rfl);(have hcz12_1 : wc.cell? ⟨gb171, 1, none⟩ = some (.int .i64 a0_1) := (blk_cell BK171.out 1).trans rfl);(have hcz12_2 : wc.cell? ⟨gb171, 2, none⟩ = some (.int .i64 a0_2) := (blk_cell BK171.out 2).trans rfl);(have hcz12_3 : wc.cell? ⟨gb171, 3, none⟩ = some (.slice A0_3 l0_3.length c0_3) := (blk_cell BK171.out 3).trans rfl);(have hfz12_0 := blk_frozen BK171.out 0);(have hfz12_1 := blk_frozen BK171.out 1);(have hfz12_2 := blk_frozen BK171.out 2);(have hfz12_3 := blk_frozen BK171.out 3)
        go_wp2
        go_meet
        case rel => exact ⟨_, (true), (by first | rfl | (simp; done) | (simp [*]; done)), H', ⟨by have := HJ1.out; first | omega | exact Nat.le_refl _⟩, ⟨by (with_reducible repeat first | refine blk_drewN ?_ _ | refine blk_drew ?_ | refine blk_alloc ?_ _); exact BK171.out⟩, ⟨by repeat (first | (with_reducible first | exact HB.out | apply below_alloc | apply pw_below_drewN | apply below_drew1 | refine below_set ?_ GE171.out) | exact HB.out)⟩⟩
      ·(rw [if_neg c11] at H);(have c11b0 : decide (a0_0 < a0_1) = false := decide_eq_false c11);(clear c11)
       by_cases c13 : a0_2 < 1
       ·(rw [if_pos c13] at H);(have c13b0 : decide (a0_2 < 1) = true := decide_eq_true c13);(clear c13)
        as_aux_lemma =>
         (have H' := Aside0.mk H);(clear H);(have hcz14_0 : wc.cell? ⟨gb171, 0, none⟩ = some (.int .i64 a0_0) := (blk_cell BK171.out 0).trans rfl);(have hcz14_1 : wc.cell? ⟨gb171, 1, none⟩ = some (.int .i64 a0_1) := (blk_cell BK171.out 1).trans rfl);(have hcz14_2 : wc.cell? ⟨gb171, 2, none⟩ = some (.int .i64 a0_2) := (blk_cell BK171.out 2).trans rfl);(have hcz14_3 : wc.cell? ⟨gb171, 3, none⟩ = some (.slice A0_3 l0_3.length c0_3) := (blk_cell BK171.out 3).trans rfl);(have hfz14_0 := blk_frozen BK171.out 0);(have hfz14_1 := blk_frozen BK171.out 1);(have hfz14_2 := blk_frozen BK171.out 2);(have hfz14_3 := blk_frozen BK171.out 3)
         go_wp2
         go_meet
         case rel => exact ⟨_, (true), (by first | rfl | (simp; done) | (simp [*]; done)), H', ⟨by have := HJ1.out; first | omega | exact Nat.le_refl _⟩, ⟨by (with_reducible repeat first | refine blk_drewN ?_ _ | refine blk_drew ?_ | refine blk_alloc ?_ _); exact BK171.out⟩, ⟨by repeat (first | (with_reducible first | exact HB.out | apply below_alloc | apply pw_below_drewN | apply below_drew1 | refine below_set ?_ GE171.out) | exact HB.out)⟩⟩
       ·(rw [if_neg c13] at H);(have c13b0 : decide (a0_2 < 1) = false := decide_eq_false c13);(clear c13)
        as_aux_lemma =>
         (have H' := Aside0.mk H);(clear H);(have hcz15_0 : wc.cell? ⟨gb171, 0, none⟩ = some (.int .i64 a0_0) := (blk_cell BK171.out 0).trans rfl);(have hcz15_1 : wc.cell? ⟨gb171, 1, none⟩ = some (.int .i64 a0_1) := (blk_cell BK171.out 1).trans rfl);(have hcz15_2 : wc.cell? ⟨gb171, 2, none⟩ = some (.int .i64 a0_2) := (blk_cell BK171.out 2).trans rfl);(have hcz15_3 : wc.cell? ⟨gb171, 3, none⟩ = some (.slice A0_3 l0_3.length c0_3) := (blk_cell BK171.out 3).trans rfl);(have hfz15_0 := blk_frozen BK171.out 0);(have hfz15_1 := blk_frozen BK171.out 1);(have hfz15_2 := blk_frozen BK171.out 2);(have hfz15_3 := blk_frozen BK171.out 3)
         go_wp2
         go_meet
         case rel => exact ⟨_, (decide (a0_2 > a0_0)), (by first | rfl | (simp; done) | (simp [*]; done)), H', ⟨by have := HJ1.out; first | omega | exact Nat.le_refl _⟩, ⟨by (with_reducible repeat first | refine blk_drewN ?_ _ | refine blk_drew ?_ | refine blk_alloc ?_ _); exact BK171.out⟩, ⟨by repeat (first | (with_reducible first | exact HB.out | apply below_alloc | apply pw_below_drewN | apply below_drew1 | refine below_set ?_ GE171.out) | exact HB.out)⟩⟩
    case rest =>
     clear HC8
     try clear c1
     try clear p2
     try clear c4
     try clear c4b0
     try clear c5
     try clear c7
     try clear c9
     try clear c9b0
     try clear c11
     try clear c11b0
     try clear c13
     try clear c13b0
     try clear hcz10_0
     try clear hcz10_1
     try clear hcz10_2
     try clear hcz10_3
     try clear hcz12_0
     try clear hcz12_1
     try clear hcz12_2
     try clear hcz12_3
     try clear hcz14_0
     try clear hcz14_1
     try clear hcz14_2
     try clear hcz14_3
     try clear hcz15_0
     try clear hcz15_1
     try clear hcz15_2
     try clear hcz15_3
     try clear hcz5_0
     try clear hcz5_1
     try clear hcz5_2
     try clear hcz5_3
     try clear hcz6_0
     try clear hcz6_1
     try clear hcz6_2
     try clear hcz6_3
     try clear hfz10_0
     try clear hfz10_1
     try clear hfz10_2
     try clear hfz10_3
     try clear hfz12_0
     try clear hfz12_1
     try clear hfz12_2
     try clear hfz12_3
     try clear hfz14_0
     try clear hfz14_1
     try clear hfz14_2
     try clear hfz14_3
     try clear hfz15_0
     try clear hfz15_1
     try clear hfz15_2
     try clear hfz15_3
     try clear hfz5_0
     try clear hfz5_1
     try clear hfz5_2
     try clear hfz5_3
     try clear hfz6_0
     try clear hfz6_1
     try clear hfz6_2
     try clear hfz6_3
     try clear p2
     obtain ⟨kq, x35_7, rfl, HA, HJ7, BK171, HB⟩ := hcut
     cases kq with
     | zero => exact absurd HA.out (by simp [racewayref3_Check.j1])
     | succ kj7 =>
      (have H := HA.out);(clear HA);(simp only [racewayref3_Check.j1] at H)
      by_cases c16 : x35_7 = true
      ·(subst c16);(have H1 : (some 4) = some r := by rw [if_pos rfl] at H; exact H);(clear H);(have H := H1);(clear H1)
       as_aux_lemma =>
        obtain rfl := Option.some.inj H
        go_wp2
        go_ret
        exact ⟨by first | rfl | (simp [errW_none, errW_some] <;> rfl) | (simp [*, errW_none, errW_some] <;> rfl), by repeat (first | (with_reducible first | exact HB.out | apply below_alloc | apply pw_below_drewN | apply below_drew1 | refine below_set ?_ GE171.out) | exact HB.out)⟩
      ·(replace c16 := Bool.eq_false_iff.mpr c16);(subst c16);(have H1 : (if a0_1 = a0_2 then (some 5) else (if (l0_3.length : Int) > 2000 then (some 6) else (racewayref3_Check.l0 kj7 4611686018427387903 0 a0_0 a0_1 a0_2 l0_3))) = some r := by rw [if_neg (show ¬ (false = true) by decide)] at H; exact H);(clear H);(have H := H1);(clear H1)
       by_cases c17 : a0_1 = a0_2
       ·(rw [if_pos c17] at H);(have c17b0 : (a0_1 == a0_2) = true := beq_iff_eq.mpr c17);(have c17b1 : (a0_1 != a0_2) = false := bne_eq_false_iff_eq.mpr c17);(clear c17)
        as_aux_lemma =>
         (obtain rfl := Option.some.inj H);(have hcz18_0 : wc.cell? ⟨gb171, 0, none⟩ = some (.int .i64 a0_0) := (blk_cell BK171.out 0).trans rfl);(have hcz18_1 : wc.cell? ⟨gb171, 1, none⟩ = some (.int .i64 a0_1) := (blk_cell BK171.out 1).trans rfl);(have hcz18_2 : wc.cell? ⟨gb171, 2, none⟩ = some (.int .i64 a0_2) := (blk_cell BK171.out 2).trans rfl);(have hcz18_3 : wc.cell? ⟨gb171, 3, none⟩ = some (.slice A0_3 l0_3.length c0_3) := (blk_cell BK171.out 3).trans rfl);(have hfz18_0 := blk_frozen BK171.out 0);(have hfz18_1 := blk_frozen BK171.out 1);(have hfz18_2 := blk_frozen BK171.out 2);(have hfz18_3 := blk_frozen BK171.out 3)
         go_wp2
         go_ret
         exact ⟨by first | rfl | (simp [errW_none, errW_some] <;> rfl) | (simp [*, errW_none, errW_some] <;> rfl), by repeat (first | (with_reducible first | exact HB.out | apply below_alloc | apply pw_below_drewN | apply below_drew1 | refine below_set ?_ GE171.out) | exact HB.out)⟩
       ·(rw [if_neg c17] at H);(have c17b0 : (a0_1 == a0_2) = false := beq_eq_false_iff_ne.mpr c17);(have c17b1 : (a0_1 != a0_2) = true := bne_iff_ne.mpr c17)
        by_cases c19 : (l0_3.length : Int) > 2000
        ·(rw [if_pos c19] at H);(have c19b0 : decide (2000 < (l0_3.length : Int)) = true := decide_eq_true c19);(have c19b1 : decide (2000 < l0_3.length) = true := decide_eq_true (by omega));(clear c19)
         as_aux_lemma =>
          (obtain rfl := Option.some.inj H);(have hcz20_0 : wc.cell? ⟨gb171, 0, none⟩ = some (.int .i64 a0_0) := (blk_cell BK171.out 0).trans rfl);(have hcz20_1 : wc.cell? ⟨gb171, 1, none⟩ = some (.int .i64 a0_1) := (blk_cell BK171.out 1).trans rfl);(have hcz20_2 : wc.cell? ⟨gb171, 2, none⟩ = some (.int .i64 a0_2) := (blk_cell BK171.out 2).trans rfl);(have hcz20_3 : wc.cell? ⟨gb171, 3, none⟩ = some (.slice A0_3 l0_3.length c0_3) := (blk_cell BK171.out 3).trans rfl);(have hfz20_0 := blk_frozen BK171.out 0);(have hfz20_1 := blk_frozen BK171.out 1);(have hfz20_2 := blk_frozen BK171.out 2);(have hfz20_3 := blk_frozen BK171.out 3)
          go_wp2
          go_ret
          exact ⟨by first | rfl | (simp [errW_none, errW_some] <;> rfl) | (simp [*, errW_none, errW_some] <;> rfl), by repeat (first | (with_reducible first | exact HB.out | apply below_alloc | apply pw_below_drewN | apply below_drew1 | refine below_set ?_ GE171.out) | exact HB.out)⟩
        ·(rw [if_neg c19] at H);(have c19b0 : decide (2000 < (l0_3.length : Int)) = false := decide_eq_false c19);(have c19b1 : decide (2000 < l0_3.length) = false := decide_eq_false (by omega));(clear c19);(have H' := Aside0.mk H);(clear H);(have hcz21_0 : wc.cell? ⟨gb171, 0, none⟩ = some (.int .i64 a0_0) := (blk_cell BK171.out 0).trans rfl);(have hcz21_1 : wc.cell? ⟨gb171, 1, none⟩ = some (.int .i64 a0_1) := (blk_cell BK171.out 1).trans rfl);(have hcz21_2 : wc.cell? ⟨gb171, 2, none⟩ = some (.int .i64 a0_2) := (blk_cell BK171.out 2).trans rfl);(have hcz21_3 : wc.cell? ⟨gb171, 3, none⟩ = some (.slice A0_3 l0_3.length c0_3) := (blk_cell BK171.out 3).trans rfl);(have hfz21_0 := blk_frozen BK171.out 0);(have hfz21_1 := blk_frozen BK171.out 1);(have hfz21_2 := blk_frozen BK171.out 2);(have hfz21_3 := blk_frozen BK171.out 3)
         go_wp2
         go_loopg [3, 4] kj7 (fun kq v3 v4 w' => ∃ (x3_3 : Int) (x4_3 : Int), v3 = .int .i64 x3_3 ∧ v4 = .int .i64 x4_3 ∧ Aside0 (racewayref3_Check.l0 kq x3_3 x4_3 a0_0 a0_1 a0_2 l0_3 = some r) ∧ Aside0 (kq ≤ kj7) ∧ Aside0 (w'.heap[gb171]? = some (.cells #[.int .i64 a0_0, .int .i64 a0_1, .int .i64 a0_2, (.slice A0_3 l0_3.length c0_3)] 27 (0, 0))) ∧ Aside0 (Below w.heap.size w w'))
         case atStart => exact ⟨(4611686018427387903), (0), (by first | rfl | (simp; done) | (simp [*]; done)), (by first | rfl | (simp; done) | (simp [*]; done)), H', ⟨Nat.le_refl _⟩, ⟨by (with_reducible repeat first | refine blk_drewN ?_ _ | refine blk_drew ?_ | refine blk_alloc ?_ _); exact BK171.out⟩, ⟨by repeat (first | (with_reducible first | exact HB.out | apply below_alloc | apply pw_below_drewN | apply below_drew1 | refine below_set ?_ GE171.out) | exact HB.out)⟩⟩
         case round =>
          clear H'
          try clear c1
          try clear p2
          try clear c4
          try clear c4b0
          try clear c5
          try clear c7
          try clear c9
          try clear c9b0
          try clear c11
          try clear c11b0
          try clear c13
          try clear c13b0
          try clear c16
          try clear c17
          try clear c17b0
          try clear c17b1
          try clear c19
          try clear c19b0
          try clear c19b1
          try clear hcz10_0
          try clear hcz10_1
          try clear hcz10_2
          try clear hcz10_3
          try clear hcz12_0
          try clear hcz12_1
          try clear hcz12_2
          try clear hcz12_3
          try clear hcz14_0
          try clear hcz14_1
          try clear hcz14_2
          try clear hcz14_3
          try clear hcz15_0
          try clear hcz15_1
          try clear hcz15_2
          try clear hcz15_3
          try clear hcz18_0
          try clear hcz18_1
          try clear hcz18_2
          try clear hcz18_3
          try clear hcz20_0
          try clear hcz20_1
          try clear hcz20_2
          try clear hcz20_3
          try clear hcz21_0
          try clear hcz21_1
          try clear hcz21_2
          try clear hcz21_3
          try clear hcz5_0
          try clear hcz5_1
          try clear hcz5_2
          try clear hcz5_3
          try clear hcz6_0
          try clear hcz6_1
          try clear hcz6_2
          try clear hcz6_3
          try clear hfz10_0
          try clear hfz10_1
          try clear hfz10_2
          try clear hfz10_3
          try clear hfz12_0
          try clear hfz12_1
          try clear hfz12_2
          try clear hfz12_3
          try clear hfz14_0
          try clear hfz14_1
          try clear hfz14_2
          try clear hfz14_3
          try clear hfz15_0
          try clear hfz15_1
          try clear hfz15_2
          try clear hfz15_3
          try clear hfz18_0
          try clear hfz18_1
          try clear hfz18_2
          try clear hfz18_3
          try clear hfz20_0
          try clear hfz20_1
          try clear hfz20_2
          try clear hfz20_3
          try clear hfz21_0
          try clear hfz21_1
          try clear hfz21_2
          try clear hfz21_3
          try clear hfz5_0
          try clear hfz5_1
          try clear hfz5_2
          try clear hfz5_3
          try clear hfz6_0
          try clear hfz6_1
          try clear hfz6_2
          try clear hfz6_3
          try clear p2
          obtain ⟨x3_3, x4_3, rfl, rfl, HA, HK3, BK171, HB⟩ := hrel
          cases gk with
          | zero => exact absurd HA.out (by simp [racewayref3_Check.l0])
          | succ k3 =>
           (have H := HA.out);(clear HA);(simp only [racewayref3_Check.l0] at H)
           by_cases c22 : x4_3 < (l0_3.length : Int)
           ·(rw [if_pos c22] at H);(have c22b0 : decide (x4_3 < (l0_3.length : Int)) = true := decide_eq_true c22);(clear c22)
            by_cases c23 : 0 ≤ x4_3
            ·(rw [if_pos c23] at H);(have c23b0 : decide (0 ≤ x4_3) = true := decide_eq_true c23);(clear c23);(have HC24 := Aside0.mk H);(clear H);(have hcz25_0 : wr.cell? ⟨gb171, 0, none⟩ = some (.int .i64 a0_0) := (blk_cell BK171.out 0).trans rfl);(have hcz25_1 : wr.cell? ⟨gb171, 1, none⟩ = some (.int .i64 a0_1) := (blk_cell BK171.out 1).trans rfl);(have hcz25_2 : wr.cell? ⟨gb171, 2, none⟩ = some (.int .i64 a0_2) := (blk_cell BK171.out 2).trans rfl);(have hcz25_3 : wr.cell? ⟨gb171, 3, none⟩ = some (.slice A0_3 l0_3.length c0_3) := (blk_cell BK171.out 3).trans rfl);(have hfz25_0 := blk_frozen BK171.out 0);(have hfz25_1 := blk_frozen BK171.out 1);(have hfz25_2 := blk_frozen BK171.out 2);(have hfz25_3 := blk_frozen BK171.out 3);(have p172 : 0 ≤ (x4_3 : Int) := of_decide_eq_true (by first | (with_reducible assumption) | assumption));(have q172 : x4_3 < (l0_3.length : Int) := of_decide_eq_true (by first | (with_reducible assumption) | assumption));(obtain ⟨ad172, e172, hx172_0, hx172_1, hx172_2⟩ := at_T49 HR0_3.out x4_3 p172 q172);(cases e172);(replace hx172_0 := (HB.out.cell (World.block_lt_of_cell? w _ hx172_0)).trans hx172_0);(replace hx172_1 := (HB.out.cell (World.block_lt_of_cell? w _ hx172_1)).trans hx172_1);(replace hx172_2 := (HB.out.cell (World.block_lt_of_cell? w _ hx172_2)).trans hx172_2);(replace p172 := eq_true p172);(replace q172 := eq_true q172)
             go_upto_region 14 with (first | ((with_reducible refine gate_dst (N := 5) rfl ?_); refine box_event ?hg (N := 5) ?hd (cs := #[.int .i64 0, .int .i64 0, .int .i64 0]) (t := 49) ?hr ?_; (case hd => rfl); (case hg => rfl); (case hr => first | (go_simp; done) | (go_simp; rfl)); intro gb173 hg w26 hbox hb; have n0_ := Aside0.mk (blk_below (g := gb171) (o := .cells #[.int .i64 a0_0, .int .i64 a0_1, .int .i64 a0_2, .slice (some ad172) l0_3.length c0_3] 27 (0, 0)) (by (with_reducible repeat first | refine blk_drewN ?_ _ | refine blk_drew ?_ | refine blk_alloc ?_ _); exact BK171.out) hb); have n1_ := Aside0.mk (below_step (by repeat (first | (with_reducible first | exact HB.out | apply below_alloc | apply pw_below_drewN | apply below_drew1 | refine below_set ?_ GE171.out) | exact HB.out)) hb); have n2_ := Aside0.mk (hbox); have n3_ := Aside0.mk ((by rw [hg]; exact (below_size (by repeat (first | (with_reducible first | exact HB.out | apply below_alloc | apply pw_below_drewN | apply below_drew1 | refine below_set ?_ GE171.out) | exact HB.out))) : w.heap.size ≤ gb173)); have n4_ := Aside0.mk ((by rw [hg]; exact (below_size (by repeat (first | (with_reducible first | exact HB.out | apply below_alloc | apply pw_below_drewN | apply below_drew1 | refine below_set ?_ GE171.out) | exact HB.out))) : w.heap.size ≤ gb173)); have n5_ := Aside0.mk ((by rw [hg]; exact Nat.ne_of_lt (blk_lt (g := gb171) (o := .cells #[.int .i64 a0_0, .int .i64 a0_1, .int .i64 a0_2, .slice (some ad172) l0_3.length c0_3] 27 (0, 0)) (by (with_reducible repeat first | refine blk_drewN ?_ _ | refine blk_drew ?_ | refine blk_alloc ?_ _); exact BK171.out)) : gb171 ≠ gb173)); have n6_ := Aside0.mk ((by rw [hg]; exact Nat.ne_of_gt (blk_lt (g := gb171) (o := .cells #[.int .i64 a0_0, .int .i64 a0_1, .int .i64 a0_2, .slice (some ad172) l0_3.length c0_3] 27 (0, 0)) (by (with_reducible repeat first | refine blk_drewN ?_ _ | refine blk_drew ?_ | refine blk_alloc ?_ _); exact BK171.out)) : gb173 ≠ gb171)); clear BK171; clear HB; have BK171 := n0_; have HB := n1_; have BK173 := n2_; have GW173 := n3_; have GE173 := n4_; have NB171_173 := n5_; have NB173_171 := n6_; clear n0_ n1_ n2_ n3_ n4_ n5_ n6_; clear hb hbox hg; have hnb27 := NB173_171.out; have hnc27 := NB171_173.out; have hcz28_0 : w26.cell? ⟨gb173, 0, none⟩ = some (.int .i64 0) := (blk_cell BK173.out 0).trans rfl; have hcz28_1 : w26.cell? ⟨gb173, 1, none⟩ = some (.int .i64 0) := (blk_cell BK173.out 1).trans rfl; have hcz28_2 : w26.cell? ⟨gb173, 2, none⟩ = some (.int .i64 0) := (blk_cell BK173.out 2).trans rfl; have hfz28_0 := blk_frozen BK173.out 0; have hfz28_1 := blk_frozen BK173.out 1; have hfz28_2 := blk_frozen BK173.out 2))
             (try simp only [Act.put, List.setIfInBounds_toArray, List.set_cons_zero, List.set_cons_succ])
             go_cut [78] (fun v78 wc => ∃ (kq : Nat) (x78_23 : Bool), v78 = .bool x78_23 ∧ Aside0 (racewayref3_Check.j3 kq x3_3 x4_3 x78_23 a0_0 a0_1 a0_2 l0_3 ((rd_T49 l0_3 x4_3).f0) ((rd_T49 l0_3 x4_3).f1) ((rd_T49 l0_3 x4_3).f2) = some r) ∧ Aside0 (kq ≤ k3) ∧ Aside0 (wc.heap[gb171]? = some (.cells #[.int .i64 a0_0, .int .i64 a0_1, .int .i64 a0_2, (.slice (some ad172) l0_3.length c0_3)] 27 (0, 0))) ∧ Aside0 (wc.heap[gb173]? = some (.cells #[.int .i64 ((rd_T49 l0_3 x4_3).f0), .int .i64 ((rd_T49 l0_3 x4_3).f1), .int .i64 ((rd_T49 l0_3 x4_3).f2)] 49 (0, 0))) ∧ Aside0 (Below w.heap.size w wc))
             case first =>
              (have H := HC24.out);(clear HC24)
              by_cases c29 : ((rd_T49 l0_3 x4_3).f0) < 1
              ·(rw [if_pos c29] at H);(have c29b0 : decide (((rd_T49 l0_3 x4_3).f0) < 1) = true := decide_eq_true c29);(clear c29);((first | rw [c29b0] | (simp only [i64_w, i32_w]; rw [c29b0]) | skip))
               as_aux_lemma =>
                (have H' := Aside0.mk H);(clear H);(have hnb30 := NB173_171.out);(have hnc30 := NB171_173.out);(have hcz31_0 : w26.cell? ⟨gb173, 0, none⟩ = some (.int .i64 0) := (blk_cell BK173.out 0).trans rfl);(have hcz31_1 : w26.cell? ⟨gb173, 1, none⟩ = some (.int .i64 0) := (blk_cell BK173.out 1).trans rfl);(have hcz31_2 : w26.cell? ⟨gb173, 2, none⟩ = some (.int .i64 0) := (blk_cell BK173.out 2).trans rfl);(have hfz31_0 := blk_frozen BK173.out 0);(have hfz31_1 := blk_frozen BK173.out 1);(have hfz31_2 := blk_frozen BK173.out 2)
                go_wp2
                go_meet
                case rel => exact ⟨_, (true), (by first | rfl | (simp; done) | (simp [*]; done)), H', ⟨by have := HJ1.out; have := HJ7.out; have := HK3.out; first | omega | exact Nat.le_refl _⟩, ⟨by (with_reducible repeat first | refine blk_drewN ?_ _ | refine blk_drew ?_ | refine blk_alloc ?_ _); refine blk_far ?_ NB171_173.out _; (with_reducible repeat first | refine blk_drewN ?_ _ | refine blk_drew ?_ | refine blk_alloc ?_ _); refine blk_far ?_ NB171_173.out _; (with_reducible repeat first | refine blk_drewN ?_ _ | refine blk_drew ?_ | refine blk_alloc ?_ _); refine blk_far ?_ NB171_173.out _; (with_reducible repeat first | refine blk_drewN ?_ _ | refine blk_drew ?_ | refine blk_alloc ?_ _); exact BK171.out⟩, ⟨by (with_reducible repeat first | refine blk_drewN ?_ _ | refine blk_drew ?_ | refine blk_alloc ?_ _); refine blk_put (cs := #[.int .i64 ((rd_T49 l0_3 x4_3).f0), .int .i64 ((rd_T49 l0_3 x4_3).f1), .int .i64 0]) ?_ 2 _ rfl; (with_reducible repeat first | refine blk_drewN ?_ _ | refine blk_drew ?_ | refine blk_alloc ?_ _); refine blk_put (cs := #[.int .i64 ((rd_T49 l0_3 x4_3).f0), .int .i64 0, .int .i64 0]) ?_ 1 _ rfl; (with_reducible repeat first | refine blk_drewN ?_ _ | refine blk_drew ?_ | refine blk_alloc ?_ _); refine blk_put (cs := #[.int .i64 0, .int .i64 0, .int .i64 0]) ?_ 0 _ rfl; (with_reducible repeat first | refine blk_drewN ?_ _ | refine blk_drew ?_ | refine blk_alloc ?_ _); exact BK173.out⟩, ⟨by repeat (first | (with_reducible first | exact HB.out | apply below_alloc | apply pw_below_drewN | apply below_drew1 | refine below_set ?_ GE171.out | refine below_set ?_ GE173.out) | exact HB.out)⟩⟩
              ·(rw [if_neg c29] at H);(have c29b0 : decide (((rd_T49 l0_3 x4_3).f0) < 1) = false := decide_eq_false c29);(clear c29);((first | rw [c29b0] | (simp only [i64_w, i32_w]; rw [c29b0]) | skip))
               by_cases c32 : ((rd_T49 l0_3 x4_3).f0) > a0_0
               ·(rw [if_pos c32] at H);(have c32b0 : decide (a0_0 < ((rd_T49 l0_3 x4_3).f0)) = true := decide_eq_true c32);(clear c32)
                as_aux_lemma =>
                 (have H' := Aside0.mk H);(clear H);(have hnb33 := NB173_171.out);(have hnc33 := NB171_173.out);(have hcz34_0 : w26.cell? ⟨gb173, 0, none⟩ = some (.int .i64 0) := (blk_cell BK173.out 0).trans rfl);(have hcz34_1 : w26.cell? ⟨gb173, 1, none⟩ = some (.int .i64 0) := (blk_cell BK173.out 1).trans rfl);(have hcz34_2 : w26.cell? ⟨gb173, 2, none⟩ = some (.int .i64 0) := (blk_cell BK173.out 2).trans rfl);(have hfz34_0 := blk_frozen BK173.out 0);(have hfz34_1 := blk_frozen BK173.out 1);(have hfz34_2 := blk_frozen BK173.out 2);(have hcz35_0 : w26.cell? ⟨gb171, 0, none⟩ = some (.int .i64 a0_0) := (blk_cell BK171.out 0).trans rfl);(have hcz35_1 : w26.cell? ⟨gb171, 1, none⟩ = some (.int .i64 a0_1) := (blk_cell BK171.out 1).trans rfl);(have hcz35_2 : w26.cell? ⟨gb171, 2, none⟩ = some (.int .i64 a0_2) := (blk_cell BK171.out 2).trans rfl);(have hcz35_3 : w26.cell? ⟨gb171, 3, none⟩ = some (.slice (some ad172) l0_3.length c0_3) := (blk_cell BK171.out 3).trans rfl);(have hfz35_0 := blk_frozen BK171.out 0);(have hfz35_1 := blk_frozen BK171.out 1);(have hfz35_2 := blk_frozen BK171.out 2);(have hfz35_3 := blk_frozen BK171.out 3)
                 go_wp2
                 go_meet
                 case rel => exact ⟨_, (true), (by first | rfl | (simp; done) | (simp [*]; done)), H', ⟨by have := HJ1.out; have := HJ7.out; have := HK3.out; first | omega | exact Nat.le_refl _⟩, ⟨by (with_reducible repeat first | refine blk_drewN ?_ _ | refine blk_drew ?_ | refine blk_alloc ?_ _); refine blk_far ?_ NB171_173.out _; (with_reducible repeat first | refine blk_drewN ?_ _ | refine blk_drew ?_ | refine blk_alloc ?_ _); refine blk_far ?_ NB171_173.out _; (with_reducible repeat first | refine blk_drewN ?_ _ | refine blk_drew ?_ | refine blk_alloc ?_ _); refine blk_far ?_ NB171_173.out _; (with_reducible repeat first | refine blk_drewN ?_ _ | refine blk_drew ?_ | refine blk_alloc ?_ _); exact BK171.out⟩, ⟨by (with_reducible repeat first | refine blk_drewN ?_ _ | refine blk_drew ?_ | refine blk_alloc ?_ _); refine blk_put (cs := #[.int .i64 ((rd_T49 l0_3 x4_3).f0), .int .i64 ((rd_T49 l0_3 x4_3).f1), .int .i64 0]) ?_ 2 _ rfl; (with_reducible repeat first | refine blk_drewN ?_ _ | refine blk_drew ?_ | refine blk_alloc ?_ _); refine blk_put (cs := #[.int .i64 ((rd_T49 l0_3 x4_3).f0), .int .i64 0, .int .i64 0]) ?_ 1 _ rfl; (with_reducible repeat first | refine blk_drewN ?_ _ | refine blk_drew ?_ | refine blk_alloc ?_ _); refine blk_put (cs := #[.int .i64 0, .int .i64 0, .int .i64 0]) ?_ 0 _ rfl; (with_reducible repeat first | refine blk_drewN ?_ _ | refine blk_drew ?_ | refine blk_alloc ?_ _); exact BK173.out⟩, ⟨by repeat (first | (with_reducible first | exact HB.out | apply below_alloc | apply pw_below_drewN | apply below_drew1 | refine below_set ?_ GE171.out | refine below_set ?_ GE173.out) | exact HB.out)⟩⟩
               ·(rw [if_neg c32] at H);(have c32b0 : decide (a0_0 < ((rd_T49 l0_3 x4_3).f0)) = false := decide_eq_false c32);(clear c32)
                by_cases c36 : ((rd_T49 l0_3 x4_3).f1) < 1
                ·(rw [if_pos c36] at H);(have c36b0 : decide (((rd_T49 l0_3 x4_3).f1) < 1) = true := decide_eq_true c36);(clear c36)
                 as_aux_lemma =>
                  (have H' := Aside0.mk H);(clear H);(have hnb37 := NB173_171.out);(have hnc37 := NB171_173.out);(have hcz38_0 : w26.cell? ⟨gb173, 0, none⟩ = some (.int .i64 0) := (blk_cell BK173.out 0).trans rfl);(have hcz38_1 : w26.cell? ⟨gb173, 1, none⟩ = some (.int .i64 0) := (blk_cell BK173.out 1).trans rfl);(have hcz38_2 : w26.cell? ⟨gb173, 2, none⟩ = some (.int .i64 0) := (blk_cell BK173.out 2).trans rfl);(have hfz38_0 := blk_frozen BK173.out 0);(have hfz38_1 := blk_frozen BK173.out 1);(have hfz38_2 := blk_frozen BK173.out 2);(have hcz39_0 : w26.cell? ⟨gb171, 0, none⟩ = some (.int .i64 a0_0) := (blk_cell BK171.out 0).trans rfl);(have hcz39_1 : w26.cell? ⟨gb171, 1, none⟩ = some (.int .i64 a0_1) := (blk_cell BK171.out 1).trans rfl);(have hcz39_2 : w26.cell? ⟨gb171, 2, none⟩ = some (.int .i64 a0_2) := (blk_cell BK171.out 2).trans rfl);(have hcz39_3 : w26.cell? ⟨gb171, 3, none⟩ = some (.slice (some ad172) l0_3.length c0_3) := (blk_cell BK171.out 3).trans rfl);(have hfz39_0 := blk_frozen BK171.out 0);(have hfz39_1 := blk_frozen BK171.out 1);(have hfz39_2 := blk_frozen BK171.out 2);(have hfz39_3 := blk_frozen BK171.out 3)
                  go_wp2
                  go_meet
                  case rel => exact ⟨_, (true), (by first | rfl | (simp; done) | (simp [*]; done)), H', ⟨by have := HJ1.out; have := HJ7.out; have := HK3.out; first | omega | exact Nat.le_refl _⟩, ⟨by (with_reducible repeat first | refine blk_drewN ?_ _ | refine blk_drew ?_ | refine blk_alloc ?_ _); refine blk_far ?_ NB171_173.out _; (with_reducible repeat first | refine blk_drewN ?_ _ | refine blk_drew ?_ | refine blk_alloc ?_ _); refine blk_far ?_ NB171_173.out _; (with_reducible repeat first | refine blk_drewN ?_ _ | refine blk_drew ?_ | refine blk_alloc ?_ _); refine blk_far ?_ NB171_173.out _; (with_reducible repeat first | refine blk_drewN ?_ _ | refine blk_drew ?_ | refine blk_alloc ?_ _); exact BK171.out⟩, ⟨by (with_reducible repeat first | refine blk_drewN ?_ _ | refine blk_drew ?_ | refine blk_alloc ?_ _); refine blk_put (cs := #[.int .i64 ((rd_T49 l0_3 x4_3).f0), .int .i64 ((rd_T49 l0_3 x4_3).f1), .int .i64 0]) ?_ 2 _ rfl; (with_reducible repeat first | refine blk_drewN ?_ _ | refine blk_drew ?_ | refine blk_alloc ?_ _); refine blk_put (cs := #[.int .i64 ((rd_T49 l0_3 x4_3).f0), .int .i64 0, .int .i64 0]) ?_ 1 _ rfl; (with_reducible repeat first | refine blk_drewN ?_ _ | refine blk_drew ?_ | refine blk_alloc ?_ _); refine blk_put (cs := #[.int .i64 0, .int .i64 0, .int .i64 0]) ?_ 0 _ rfl; (with_reducible repeat first | refine blk_drewN ?_ _ | refine blk_drew ?_ | refine blk_alloc ?_ _); exact BK173.out⟩, ⟨by repeat (first | (with_reducible first | exact HB.out | apply below_alloc | apply pw_below_drewN | apply below_drew1 | refine below_set ?_ GE171.out | refine below_set ?_ GE173.out) | exact HB.out)⟩⟩
                ·(rw [if_neg c36] at H);(have c36b0 : decide (((rd_T49 l0_3 x4_3).f1) < 1) = false := decide_eq_false c36);(clear c36)
                 as_aux_lemma =>
                  (have H' := Aside0.mk H);(clear H);(have hnb40 := NB173_171.out);(have hnc40 := NB171_173.out);(have hcz41_0 : w26.cell? ⟨gb173, 0, none⟩ = some (.int .i64 0) := (blk_cell BK173.out 0).trans rfl);(have hcz41_1 : w26.cell? ⟨gb173, 1, none⟩ = some (.int .i64 0) := (blk_cell BK173.out 1).trans rfl);(have hcz41_2 : w26.cell? ⟨gb173, 2, none⟩ = some (.int .i64 0) := (blk_cell BK173.out 2).trans rfl);(have hfz41_0 := blk_frozen BK173.out 0);(have hfz41_1 := blk_frozen BK173.out 1);(have hfz41_2 := blk_frozen BK173.out 2);(have hcz42_0 : w26.cell? ⟨gb171, 0, none⟩ = some (.int .i64 a0_0) := (blk_cell BK171.out 0).trans rfl);(have hcz42_1 : w26.cell? ⟨gb171, 1, none⟩ = some (.int .i64 a0_1) := (blk_cell BK171.out 1).trans rfl);(have hcz42_2 : w26.cell? ⟨gb171, 2, none⟩ = some (.int .i64 a0_2) := (blk_cell BK171.out 2).trans rfl);(have hcz42_3 : w26.cell? ⟨gb171, 3, none⟩ = some (.slice (some ad172) l0_3.length c0_3) := (blk_cell BK171.out 3).trans rfl);(have hfz42_0 := blk_frozen BK171.out 0);(have hfz42_1 := blk_frozen BK171.out 1);(have hfz42_2 := blk_frozen BK171.out 2);(have hfz42_3 := blk_frozen BK171.out 3)
                  go_wp2
                  go_meet
                  case rel => exact ⟨_, (decide (((rd_T49 l0_3 x4_3).f1) > a0_0)), (by first | rfl | (simp; done) | (simp [*]; done)), H', ⟨by have := HJ1.out; have := HJ7.out; have := HK3.out; first | omega | exact Nat.le_refl _⟩, ⟨by (with_reducible repeat first | refine blk_drewN ?_ _ | refine blk_drew ?_ | refine blk_alloc ?_ _); refine blk_far ?_ NB171_173.out _; (with_reducible repeat first | refine blk_drewN ?_ _ | refine blk_drew ?_ | refine blk_alloc ?_ _); refine blk_far ?_ NB171_173.out _; (with_reducible repeat first | refine blk_drewN ?_ _ | refine blk_drew ?_ | refine blk_alloc ?_ _); refine blk_far ?_ NB171_173.out _; (with_reducible repeat first | refine blk_drewN ?_ _ | refine blk_drew ?_ | refine blk_alloc ?_ _); exact BK171.out⟩, ⟨by (with_reducible repeat first | refine blk_drewN ?_ _ | refine blk_drew ?_ | refine blk_alloc ?_ _); refine blk_put (cs := #[.int .i64 ((rd_T49 l0_3 x4_3).f0), .int .i64 ((rd_T49 l0_3 x4_3).f1), .int .i64 0]) ?_ 2 _ rfl; (with_reducible repeat first | refine blk_drewN ?_ _ | refine blk_drew ?_ | refine blk_alloc ?_ _); refine blk_put (cs := #[.int .i64 ((rd_T49 l0_3 x4_3).f0), .int .i64 0, .int .i64 0]) ?_ 1 _ rfl; (with_reducible repeat first | refine blk_drewN ?_ _ | refine blk_drew ?_ | refine blk_alloc ?_ _); refine blk_put (cs := #[.int .i64 0, .int .i64 0, .int .i64 0]) ?_ 0 _ rfl; (with_reducible repeat first | refine blk_drewN ?_ _ | refine blk_drew ?_ | refine blk_alloc ?_ _); exact BK173.out⟩, ⟨by repeat (first | (with_reducible first | exact HB.out | apply below_alloc | apply pw_below_drewN | apply below_drew1 | refine below_set ?_ GE171.out | refine below_set ?_ GE173.out) | exact HB.out)⟩⟩
             case rest =>
              clear HC24
              try clear c1
              try clear p1
              try clear q1
              try clear hx1
              try clear c2
              try clear p2
              try clear c3
              try clear c4
              try clear c4b0
              try clear c5
              try clear c7
              try clear c9
              try clear c9b0
              try clear c11
              try clear c11b0
              try clear c13
              try clear c13b0
              try clear c16
              try clear c17
              try clear c17b0
              try clear c17b1
              try clear p17
              try clear q17
              try clear hx17
              try clear c19
              try clear c19b0
              try clear c19b1
              try clear c22
              try clear c22b0
              try clear c23
              try clear c23b0
              try clear c27
              try clear c29
              try clear c29b0
              try clear c30
              try clear c32
              try clear c32b0
              try clear c33
              try clear c36
              try clear c36b0
              try clear c37
              try clear c40
              try clear hcz10_0
              try clear hcz10_1
              try clear hcz10_2
              try clear hcz10_3
              try clear hcz12_0
              try clear hcz12_1
              try clear hcz12_2
              try clear hcz12_3
              try clear hcz14_0
              try clear hcz14_1
              try clear hcz14_2
              try clear hcz14_3
              try clear hcz15_0
              try clear hcz15_1
              try clear hcz15_2
              try clear hcz15_3
              try clear hcz18_0
              try clear hcz18_1
              try clear hcz18_2
              try clear hcz18_3
              try clear hcz20_0
              try clear hcz20_1
              try clear hcz20_2
              try clear hcz20_3
              try clear hcz21_0
              try clear hcz21_1
              try clear hcz21_2
              try clear hcz21_3
              try clear hcz25_0
              try clear hcz25_1
              try clear hcz25_2
              try clear hcz25_3
              try clear hcz28_0
              try clear hcz28_1
              try clear hcz28_2
              try clear hcz31_0
              try clear hcz31_1
              try clear hcz31_2
              try clear hcz34_0
              try clear hcz34_1
              try clear hcz34_2
              try clear hcz35_0
              try clear hcz35_1
              try clear hcz35_2
              try clear hcz35_3
              try clear hcz38_0
              try clear hcz38_1
              try clear hcz38_2
              try clear hcz39_0
              try clear hcz39_1
              try clear hcz39_2
              try clear hcz39_3
              try clear hcz41_0
              try clear hcz41_1
              try clear hcz41_2
              try clear hcz42_0
              try clear hcz42_1
              try clear hcz42_2
              try clear hcz42_3
              try clear hcz5_0
              try clear hcz5_1
              try clear hcz5_2
              try clear hcz5_3
              try clear hcz6_0
              try clear hcz6_1
              try clear hcz6_2
              try clear hcz6_3
              try clear hfz10_0
              try clear hfz10_1
              try clear hfz10_2
              try clear hfz10_3
              try clear hfz12_0
              try clear hfz12_1
              try clear hfz12_2
              try clear hfz12_3
              try clear hfz14_0
              try clear hfz14_1
              try clear hfz14_2
              try clear hfz14_3
              try clear hfz15_0
              try clear hfz15_1
              try clear hfz15_2
              try clear hfz15_3
              try clear hfz18_0
              try clear hfz18_1
              try clear hfz18_2
              try clear hfz18_3
              try clear hfz20_0
              try clear hfz20_1
              try clear hfz20_2
              try clear hfz20_3
              try clear hfz21_0
              try clear hfz21_1
              try clear hfz21_2
              try clear hfz21_3
              try clear hfz25_0
              try clear hfz25_1
              try clear hfz25_2
              try clear hfz25_3
              try clear hfz28_0
              try clear hfz28_1
              try clear hfz28_2
              try clear hfz31_0
              try clear hfz31_1
              try clear hfz31_2
              try clear hfz34_0
              try clear hfz34_1
              try clear hfz34_2
              try clear hfz35_0
              try clear hfz35_1
              try clear hfz35_2
              try clear hfz35_3
              try clear hfz38_0
              try clear hfz38_1
              try clear hfz38_2
              try clear hfz39_0
              try clear hfz39_1
              try clear hfz39_2
              try clear hfz39_3
              try clear hfz41_0
              try clear hfz41_1
              try clear hfz41_2
              try clear hfz42_0
              try clear hfz42_1
              try clear hfz42_2
              try clear hfz42_3
              try clear hfz5_0
              try clear hfz5_1
              try clear hfz5_2
              try clear hfz5_3
              try clear hfz6_0
              try clear hfz6_1
              try clear hfz6_2
              try clear hfz6_3
              try clear hx172_0
              try clear hx172_1
              try clear hx172_2
              try clear p172
              try clear p2
              try clear q172
              obtain ⟨kq, x78_23, rfl, HA, HJ23, BK171, BK173, HB⟩ := hcut
              cases kq with
              | zero => exact absurd HA.out (by simp [racewayref3_Check.j3])
              | succ kj23 =>
               (have H := HA.out);(clear HA);(simp only [racewayref3_Check.j3] at H)
               by_cases c43 : x78_23 = true
               ·(subst c43);(have H1 : (some 4) = some r := by rw [if_pos rfl] at H; exact H);(clear H);(have H := H1);(clear H1)
                as_aux_lemma =>
                 obtain rfl := Option.some.inj H
                 go_wp2
                 go_ret
                 exact ⟨by first | rfl | (simp [errW_none, errW_some] <;> rfl) | (simp [*, errW_none, errW_some] <;> rfl), by repeat (first | (with_reducible first | exact HB.out | apply below_alloc | apply pw_below_drewN | apply below_drew1 | refine below_set ?_ GE171.out | refine below_set ?_ GE173.out) | exact HB.out)⟩
               ·(replace c43 := Bool.eq_false_iff.mpr c43);(subst c43);(have H1 : (if ((rd_T49 l0_3 x4_3).f2) < 0 then (some 3) else (if ((rd_T49 l0_3 x4_3).f2) > x3_3 then (some 7) else (racewayref3_Check.l0 kj23 (wrap64 (x3_3 - ((rd_T49 l0_3 x4_3).f2))) (wrap64 (x4_3 + 1)) a0_0 a0_1 a0_2 l0_3))) = some r := by rw [if_neg (show ¬ (false = true) by decide)] at H; exact H);(clear H);(have H := H1);(clear H1)
                by_cases c44 : ((rd_T49 l0_3 x4_3).f2) < 0
                ·(rw [if_pos c44] at H);(have c44b0 : decide (((rd_T49 l0_3 x4_3).f2) < 0) = true := decide_eq_true c44);(clear c44)
                 as_aux_lemma =>
                  (obtain rfl := Option.some.inj H);(have hnb45 := NB173_171.out);(have hnc45 := NB171_173.out);(have hcz46_0 : wc.cell? ⟨gb173, 0, none⟩ = some (.int .i64 ((rd_T49 l0_3 x4_3).f0)) := (blk_cell BK173.out 0).trans rfl);(have hcz46_1 : wc.cell? ⟨gb173, 1, none⟩ = some (.int .i64 ((rd_T49 l0_3 x4_3).f1)) := (blk_cell BK173.out 1).trans rfl);(have hcz46_2 : wc.cell? ⟨gb173, 2, none⟩ = some (.int .i64 ((rd_T49 l0_3 x4_3).f2)) := (blk_cell BK173.out 2).trans rfl);(have hfz46_0 := blk_frozen BK173.out 0);(have hfz46_1 := blk_frozen BK173.out 1);(have hfz46_2 := blk_frozen BK173.out 2)
                  go_wp2
                  go_ret
                  exact ⟨by first | rfl | (simp [errW_none, errW_some] <;> rfl) | (simp [*, errW_none, errW_some] <;> rfl), by repeat (first | (with_reducible first | exact HB.out | apply below_alloc | apply pw_below_drewN | apply below_drew1 | refine below_set ?_ GE171.out | refine below_set ?_ GE173.out) | exact HB.out)⟩
                ·(rw [if_neg c44] at H);(have c44b0 : decide (((rd_T49 l0_3 x4_3).f2) < 0) = false := decide_eq_false c44);(clear c44)
                 by_cases c47 : ((rd_T49 l0_3 x4_3).f2) > x3_3
                 ·(rw [if_pos c47] at H);(have c47b0 : decide (x3_3 < ((rd_T49 l0_3 x4_3).f2)) = true := decide_eq_true c47);(clear c47)
                  as_aux_lemma =>
                   (obtain rfl := Option.some.inj H);(have hnb48 := NB173_171.out);(have hnc48 := NB171_173.out);(have hcz49_0 : wc.cell? ⟨gb173, 0, none⟩ = some (.int .i64 ((rd_T49 l0_3 x4_3).f0)) := (blk_cell BK173.out 0).trans rfl);(have hcz49_1 : wc.cell? ⟨gb173, 1, none⟩ = some (.int .i64 ((rd_T49 l0_3 x4_3).f1)) := (blk_cell BK173.out 1).trans rfl);(have hcz49_2 : wc.cell? ⟨gb173, 2, none⟩ = some (.int .i64 ((rd_T49 l0_3 x4_3).f2)) := (blk_cell BK173.out 2).trans rfl);(have hfz49_0 := blk_frozen BK173.out 0);(have hfz49_1 := blk_frozen BK173.out 1);(have hfz49_2 := blk_frozen BK173.out 2)
                   go_wp2
                   go_ret
                   exact ⟨by first | rfl | (simp [errW_none, errW_some] <;> rfl) | (simp [*, errW_none, errW_some] <;> rfl), by repeat (first | (with_reducible first | exact HB.out | apply below_alloc | apply pw_below_drewN | apply below_drew1 | refine below_set ?_ GE171.out | refine below_set ?_ GE173.out) | exact HB.out)⟩
                 ·(rw [if_neg c47] at H);(have c47b0 : decide (x3_3 < ((rd_T49 l0_3 x4_3).f2)) = false := decide_eq_false c47);(clear c47)
                  as_aux_lemma =>
                   (have H' := Aside0.mk H);(clear H);(have hnb50 := NB173_171.out);(have hnc50 := NB171_173.out);(have hcz51_0 : wc.cell? ⟨gb173, 0, none⟩ = some (.int .i64 ((rd_T49 l0_3 x4_3).f0)) := (blk_cell BK173.out 0).trans rfl);(have hcz51_1 : wc.cell? ⟨gb173, 1, none⟩ = some (.int .i64 ((rd_T49 l0_3 x4_3).f1)) := (blk_cell BK173.out 1).trans rfl);(have hcz51_2 : wc.cell? ⟨gb173, 2, none⟩ = some (.int .i64 ((rd_T49 l0_3 x4_3).f2)) := (blk_cell BK173.out 2).trans rfl);(have hfz51_0 := blk_frozen BK173.out 0);(have hfz51_1 := blk_frozen BK173.out 1);(have hfz51_2 := blk_frozen BK173.out 2)
                   go_wp2
                   go_roundg kj23
                   case measure => have := HJ1.out; have := HJ7.out; have := HK3.out; have := HJ23.out; omega
                   case rel => exact ⟨(wrap64 (x3_3 - ((rd_T49 l0_3 x4_3).f2))), (wrap64 (x4_3 + 1)), (by first | rfl | (simp; done) | (simp [*]; done)), (by first | rfl | (simp; done) | (simp [*]; done)), H', ⟨by have := HJ1.out; have := HJ7.out; have := HK3.out; have := HJ23.out; omega⟩, ⟨by (with_reducible repeat first | refine blk_drewN ?_ _ | refine blk_drew ?_ | refine blk_alloc ?_ _); exact BK171.out⟩, ⟨by repeat (first | (with_reducible first | exact HB.out | apply below_alloc | apply pw_below_drewN | apply below_drew1 | refine below_set ?_ GE171.out | refine below_set ?_ GE173.out) | exact HB.out)⟩⟩
            ·(rw [if_neg c23] at H);(exact absurd H (by simp))
           ·(rw [if_neg c22] at H);(have c22b0 : decide (x4_3 < (l0_3.length : Int)) = false := decide_eq_false c22);(clear c22)
            as_aux_lemma =>
             (obtain rfl := Option.some.inj H);(have hcz52_0 : wr.cell? ⟨gb171, 0, none⟩ = some (.int .i64 a0_0) := (blk_cell BK171.out 0).trans rfl);(have hcz52_1 : wr.cell? ⟨gb171, 1, none⟩ = some (.int .i64 a0_1) := (blk_cell BK171.out 1).trans rfl);(have hcz52_2 : wr.cell? ⟨gb171, 2, none⟩ = some (.int .i64 a0_2) := (blk_cell BK171.out 2).trans rfl);(have hcz52_3 : wr.cell? ⟨gb171, 3, none⟩ = some (.slice A0_3 l0_3.length c0_3) := (blk_cell BK171.out 3).trans rfl);(have hfz52_0 := blk_frozen BK171.out 0);(have hfz52_1 := blk_frozen BK171.out 1);(have hfz52_2 := blk_frozen BK171.out 2);(have hfz52_3 := blk_frozen BK171.out 3)
             go_wp2
             go_ret
             exact ⟨by first | rfl | (simp [errW_none, errW_some] <;> rfl) | (simp [*, errW_none, errW_some] <;> rfl), by repeat (first | (with_reducible first | exact HB.out | apply below_alloc | apply pw_below_drewN | apply below_drew1 | refine below_set ?_ GE171.out) | exact HB.out)⟩
end Go.Proofs.Ytbppeffcikphcaa.PResidualTells
