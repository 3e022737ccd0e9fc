/- For the law ResidualTells, for every input: printed by a program (wip/myprint), contracts by hand where it says MANUAL. -/
-- slim
import Derived.Test.YtbppeffcikphcaaPResidualTellsx0
namespace Go.Proofs.Ytbppeffcikphcaa.PResidualTells
open Go.RowKit Go.Proofs.YtbppeffcikphcaaW.PrintWords Go.Proofs.YtbppeffcikphcaaW.PrintLast Go.Proofs.YtbppeffcikphcaaW.PrintMore
attribute [local go_sem] max2_int min2_int max_two min_two max_three min_three max_four min_four
set_option linter.unusedVariables false
set_option linter.unusedSimpArgs false
/-! ### racewayref5_excess: function 55 -/
def racewayref5_excess.l0 : Nat → List Int → Int → Int → Int → Int → Int → Int → List (S49) → Option (Int)
 | 0, _, _, _, _, _, _, _, _ => none
 | k + 1, x1, x2, x7, x8, x180000, x180001, x180002, x180003 => if x8 < (x180003.length : Int) then (if 0 ≤ x8 then (if ((rd_T49 x180003 x8).f1) = x2 then (if x8 < (x1.length : Int) then (if ((rd_T49 x180003 x8).f0) = x2 then (racewayref5_excess.l0 k x1 x2 (wrap64 ((wrap64 (x7 + (rd x1 x8))) - (rd x1 x8))) (wrap64 (x8 + 1)) x180000 x180001 x180002 x180003) else (racewayref5_excess.l0 k x1 x2 (wrap64 (x7 + (rd x1 x8))) (wrap64 (x8 + 1)) x180000 x180001 x180002 x180003)) else (none)) else (if ((rd_T49 x180003 x8).f0) = x2 then (if x8 < (x1.length : Int) then (racewayref5_excess.l0 k x1 x2 (wrap64 (x7 - (rd x1 x8))) (wrap64 (x8 + 1)) x180000 x180001 x180002 x180003) else (none)) else (racewayref5_excess.l0 k x1 x2 x7 (wrap64 (x8 + 1)) x180000 x180001 x180002 x180003))) else (none)) else (some x7)
def racewayref5_excess.f (k : Nat) (a0_0 : Int) (a0_1 : Int) (a0_2 : Int) (l0_3 : List (S49)) (l1 : List Int) (a2 : Int) : Option (Int) := racewayref5_excess.l0 k l1 a2 0 0 a0_0 a0_1 a0_2 l0_3
theorem racewayref5_excess.mono_l : ∀ k, (∀ y0 y1 y2 y3 y4 y5 y6 y7, LeO (racewayref5_excess.l0 k y0 y1 y2 y3 y4 y5 y6 y7) (racewayref5_excess.l0 (k + 1) y0 y1 y2 y3 y4 y5 y6 y7))
 | 0 => fun _ _ _ _ _ _ _ _ r h => by simp [racewayref5_excess.l0] at h
 | k + 1 => by
  have ih0 := racewayref5_excess.mono_l k
  ·intro y0 y1 y2 y3 y4 y5 y6 y7
   unfold racewayref5_excess.l0
   repeat' first
   | (with_reducible exact ih0 _ _ _ _ _ _ _ _)
   | (with_reducible exact LeO.refl _)
   | (with_reducible exact LeO.none _)
   | (with_reducible refine LeO.ite ?_ ?_)
   | (with_reducible refine LeO.bind ?_ (fun _ => ?_))
   | exact ih0 _ _ _ _ _ _ _ _
   | exact LeO.none _
   | refine LeO.ite ?_ ?_
   | refine LeO.bind ?_ (fun _ => ?_)
theorem racewayref5_excess.mono : ∀ a0 a1 a2 a3 a4 a5 k, LeO (racewayref5_excess.f k a0 a1 a2 a3 a4 a5) (racewayref5_excess.f (k + 1) a0 a1 a2 a3 a4 a5) := by
 intro a0 a1 a2 a3 a4 a5 k
 have ih0 := racewayref5_excess.mono_l k
 unfold racewayref5_excess.f
 repeat' first
   | (with_reducible exact ih0 _ _ _ _ _ _ _ _)
   | (with_reducible exact LeO.refl _)
   | (with_reducible exact LeO.none _)
   | (with_reducible refine LeO.ite ?_ ?_)
   | (with_reducible refine LeO.bind ?_ (fun _ => ?_))
   | exact ih0 _ _ _ _ _ _ _ _
   | exact LeO.none _
   | refine LeO.ite ?_ ?_
   | refine LeO.bind ?_ (fun _ => ?_)
set_option maxHeartbeats 8000000 in
set_option maxRecDepth 100000 in
theorem racewayref5_excess.calls (k : Nat) (a0_0 : Int) (a0_1 : Int) (a0_2 : Int) (A0_3 : Option Addr) (c0_3 : Nat) (l0_3 : List (S49)) (A1 : Option Addr) (c1 : Nat) (l1 : List Int) (a2 : Int) (r : Int) (w : World) (hr0_3 : Kd.C k49 w A0_3 l0_3.length l0_3) (hc0_3 : l0_3.length ≤ c0_3) (hr1 : Kd.C (Kd.int .i64) w A1 l1.length l1) (hc1 : l1.length ≤ c1) (h : racewayref5_excess.f k a0_0 a0_1 a0_2 l0_3 l1 a2 = some r) :
  Calls Try.prog 55 #[.agg #[.int .i64 a0_0, .int .i64 a0_1, .int .i64 a0_2, .slice A0_3 l0_3.length c0_3], .slice A1 l1.length c1, .int .i64 a2] w fun e w' => e = .returned (.int .i64 r) ∧ Below w.heap.size w w' := by
 have hu27 := Try.underlying27
 have HR0_3 := Aside0.mk hr0_3
 have HC0_3 := Aside0.mk hc0_3
 clear hr0_3 hc0_3
 have HR1 := Aside0.mk hr1
 have HC1 := Aside0.mk hc1
 clear hr1 hc1
 have HB := Aside0.mk (Below.refl w.heap.size w)
 have H : (racewayref5_excess.l0 k l1 a2 0 0 a0_0 a0_1 a0_2 l0_3) = some r := h
 clear h
 have H' := Aside0.mk H
 clear H
 go_enter Try.func55, Try.ntmps55
 go_wp2_with (first | ((with_reducible refine gate_dst (N := 3) rfl ?_); refine box_event ?hg (N := 3) ?hd (cs := #[.int .i64 a0_0, .int .i64 a0_1, .int .i64 a0_2, .slice A0_3 l0_3.length c0_3]) (t := 27) ?hr ?_; (case hd => rfl); (case hg => rfl); (case hr => first | (go_simp; done) | (go_simp; rfl)); intro gb179 hg w4 hbox hb; have n0_ := Aside0.mk (below_step (by repeat (first | (with_reducible first | exact HB.out | apply below_alloc | apply pw_below_drewN | apply below_drew1) | exact HB.out)) hb); have n1_ := Aside0.mk (hbox); have n2_ := Aside0.mk ((by rw [hg]; exact (below_size (by repeat (first | (with_reducible first | exact HB.out | apply below_alloc | apply pw_below_drewN | apply below_drew1) | exact HB.out))) : w.heap.size ≤ gb179)); have n3_ := Aside0.mk ((by rw [hg]; exact (below_size (by repeat (first | (with_reducible first | exact HB.out | apply below_alloc | apply pw_below_drewN | apply below_drew1) | exact HB.out))) : w.heap.size ≤ gb179)); clear HB; have HB := n0_; have BK179 := n1_; have GW179 := n2_; have GE179 := n3_; clear n0_ n1_ n2_ n3_; clear hb hbox hg))
 go_loopg [7, 8] k (fun kq v7 v8 w' => ∃ (x7_1 : Int) (x8_1 : Int), v7 = .int .i64 x7_1 ∧ v8 = .int .i64 x8_1 ∧ Aside0 (racewayref5_excess.l0 kq l1 a2 x7_1 x8_1 a0_0 a0_1 a0_2 l0_3 = some r) ∧ Aside0 (kq ≤ k) ∧ Aside0 (w'.heap[gb179]? = some (.cells #[.int .i64 a0_0, .int .i64 a0_1, .int .i64 a0_2, (.slice A0_3 l0_3.length c0_3)] 27 (0, 0))) ∧ Aside0 (Below w.heap.size w w'))
 case atStart => exact ⟨(0), (0), (by first | rfl | (simp; done) | (simp [*]; done)), (by first | rfl | (simp; done) | (simp [*]; done)), H', ⟨Nat.le_refl _⟩, ⟨by (with_reducible repeat first | refine blk_drewN ?_ _ | refine blk_drew ?_ | refine blk_alloc ?_ _); exact BK179.out⟩, ⟨by repeat (first | (with_reducible first | exact HB.out | apply below_alloc | apply pw_below_drewN | apply below_drew1 | refine below_set ?_ GE179.out) | exact HB.out)⟩⟩
 case round =>
  clear H'
  try clear c1
  try clear p2
  obtain ⟨x7_1, x8_1, rfl, rfl, HA, HK1, BK179, HB⟩ := hrel
  cases gk with
  | zero => exact absurd HA.out (by simp [racewayref5_excess.l0])
  | succ k1 =>
   (have H := HA.out);(clear HA);(simp only [racewayref5_excess.l0] at H)
   by_cases c5 : x8_1 < (l0_3.length : Int)
   ·(rw [if_pos c5] at H);(have c5b0 : decide (x8_1 < (l0_3.length : Int)) = true := decide_eq_true c5);(clear c5)
    by_cases c6 : 0 ≤ x8_1
    ·(rw [if_pos c6] at H);(have c6b0 : decide (0 ≤ x8_1) = true := decide_eq_true c6);(clear c6)
     by_cases c7 : ((rd_T49 l0_3 x8_1).f1) = a2
     ·(rw [if_pos c7] at H);(have c7b0 : (((rd_T49 l0_3 x8_1).f1) == a2) = true := beq_iff_eq.mpr c7);(have c7b1 : (((rd_T49 l0_3 x8_1).f1) != a2) = false := bne_eq_false_iff_eq.mpr c7);(clear c7)
      by_cases c8 : x8_1 < (l1.length : Int)
      ·(rw [if_pos c8] at H);(have c8b0 : decide (x8_1 < (l1.length : Int)) = true := decide_eq_true c8);(clear c8)
       by_cases c9 : ((rd_T49 l0_3 x8_1).f0) = a2
       ·(rw [if_pos c9] at H);(have c9b0 : (((rd_T49 l0_3 x8_1).f0) == a2) = true := beq_iff_eq.mpr c9);(have c9b1 : (((rd_T49 l0_3 x8_1).f0) != a2) = false := bne_eq_false_iff_eq.mpr c9);(clear c9)
        as_aux_lemma =>
         (have H' := Aside0.mk H);(clear H);(have hcz10_0 : wr.cell? ⟨gb179, 0, none⟩ = some (.int .i64 a0_0) := (blk_cell BK179.out 0).trans rfl);(have hcz10_1 : wr.cell? ⟨gb179, 1, none⟩ = some (.int .i64 a0_1) := (blk_cell BK179.out 1).trans rfl);(have hcz10_2 : wr.cell? ⟨gb179, 2, none⟩ = some (.int .i64 a0_2) := (blk_cell BK179.out 2).trans rfl);(have hcz10_3 : wr.cell? ⟨gb179, 3, none⟩ = some (.slice A0_3 l0_3.length c0_3) := (blk_cell BK179.out 3).trans rfl);(have hfz10_0 := blk_frozen BK179.out 0);(have hfz10_1 := blk_frozen BK179.out 1);(have hfz10_2 := blk_frozen BK179.out 2);(have hfz10_3 := blk_frozen BK179.out 3);(have p180 : 0 ≤ (x8_1 : Int) := of_decide_eq_true (by first | (with_reducible assumption) | assumption));(have q180 : x8_1 < (l0_3.length : Int) := of_decide_eq_true (by first | (with_reducible assumption) | assumption));(obtain ⟨ad180, e180, hx180_0, hx180_1, hx180_2⟩ := at_T49 HR0_3.out x8_1 p180 q180);(cases e180);(replace hx180_0 := (HB.out.cell (World.block_lt_of_cell? w _ hx180_0)).trans hx180_0);(replace hx180_1 := (HB.out.cell (World.block_lt_of_cell? w _ hx180_1)).trans hx180_1);(replace hx180_2 := (HB.out.cell (World.block_lt_of_cell? w _ hx180_2)).trans hx180_2);(replace p180 := eq_true p180);(replace q180 := eq_true q180);(have p181 : 0 ≤ (x8_1 : Int) := of_decide_eq_true (by first | (with_reducible assumption) | assumption));(have q181 : x8_1 < (l1.length : Int) := of_decide_eq_true (by first | (with_reducible assumption) | assumption));(obtain ⟨ad181, e181, hx181_0⟩ := Kd.at_int HR1.out x8_1 p181 q181);(cases e181);(replace hx181_0 := (HB.out.cell (World.block_lt_of_cell? w _ hx181_0)).trans hx181_0);(replace p181 := eq_true p181);(replace q181 := eq_true q181);(have p182 : 0 ≤ (x8_1 : Int) := of_decide_eq_true (by first | (with_reducible assumption) | assumption));(have q182 : x8_1 < (l0_3.length : Int) := of_decide_eq_true (by first | (with_reducible assumption) | assumption));(obtain ⟨ad182, e182, hx182_0, hx182_1, hx182_2⟩ := at_T49 HR0_3.out x8_1 p182 q182);(obtain rfl : ad180 = ad182 := (by injection e182));(replace hx182_0 := (HB.out.cell (World.block_lt_of_cell? w _ hx182_0)).trans hx182_0);(replace hx182_1 := (HB.out.cell (World.block_lt_of_cell? w _ hx182_1)).trans hx182_1);(replace hx182_2 := (HB.out.cell (World.block_lt_of_cell? w _ hx182_2)).trans hx182_2);(replace p182 := eq_true p182);(replace q182 := eq_true q182);(have p183 : 0 ≤ (x8_1 : Int) := of_decide_eq_true (by first | (with_reducible assumption) | assumption));(have q183 : x8_1 < (l1.length : Int) := of_decide_eq_true (by first | (with_reducible assumption) | assumption));(obtain ⟨ad183, e183, hx183_0⟩ := Kd.at_int HR1.out x8_1 p183 q183);(obtain rfl : ad181 = ad183 := (by injection e183));(replace hx183_0 := (HB.out.cell (World.block_lt_of_cell? w _ hx183_0)).trans hx183_0);(replace p183 := eq_true p183);(replace q183 := eq_true q183)
         go_wp2
         go_roundg k1
         case measure => have := HK1.out; omega
         case rel => exact ⟨(wrap64 ((wrap64 (x7_1 + (rd l1 x8_1))) - (rd l1 x8_1))), (wrap64 (x8_1 + 1)), (by first | rfl | (simp; done) | (simp [*]; done)), (by first | rfl | (simp; done) | (simp [*]; done)), H', ⟨by have := HK1.out; omega⟩, ⟨by (with_reducible repeat first | refine blk_drewN ?_ _ | refine blk_drew ?_ | refine blk_alloc ?_ _); exact BK179.out⟩, ⟨by repeat (first | (with_reducible first | exact HB.out | apply below_alloc | apply pw_below_drewN | apply below_drew1 | refine below_set ?_ GE179.out) | exact HB.out)⟩⟩
       ·(rw [if_neg c9] at H);(have c9b0 : (((rd_T49 l0_3 x8_1).f0) == a2) = false := beq_eq_false_iff_ne.mpr c9);(have c9b1 : (((rd_T49 l0_3 x8_1).f0) != a2) = true := bne_iff_ne.mpr c9)
        as_aux_lemma =>
         (have H' := Aside0.mk H);(clear H);(have hcz11_0 : wr.cell? ⟨gb179, 0, none⟩ = some (.int .i64 a0_0) := (blk_cell BK179.out 0).trans rfl);(have hcz11_1 : wr.cell? ⟨gb179, 1, none⟩ = some (.int .i64 a0_1) := (blk_cell BK179.out 1).trans rfl);(have hcz11_2 : wr.cell? ⟨gb179, 2, none⟩ = some (.int .i64 a0_2) := (blk_cell BK179.out 2).trans rfl);(have hcz11_3 : wr.cell? ⟨gb179, 3, none⟩ = some (.slice A0_3 l0_3.length c0_3) := (blk_cell BK179.out 3).trans rfl);(have hfz11_0 := blk_frozen BK179.out 0);(have hfz11_1 := blk_frozen BK179.out 1);(have hfz11_2 := blk_frozen BK179.out 2);(have hfz11_3 := blk_frozen BK179.out 3);(have p180 : 0 ≤ (x8_1 : Int) := of_decide_eq_true (by first | (with_reducible assumption) | assumption));(have q180 : x8_1 < (l0_3.length : Int) := of_decide_eq_true (by first | (with_reducible assumption) | assumption));(obtain ⟨ad180, e180, hx180_0, hx180_1, hx180_2⟩ := at_T49 HR0_3.out x8_1 p180 q180);(cases e180);(replace hx180_0 := (HB.out.cell (World.block_lt_of_cell? w _ hx180_0)).trans hx180_0);(replace hx180_1 := (HB.out.cell (World.block_lt_of_cell? w _ hx180_1)).trans hx180_1);(replace hx180_2 := (HB.out.cell (World.block_lt_of_cell? w _ hx180_2)).trans hx180_2);(replace p180 := eq_true p180);(replace q180 := eq_true q180);(have p181 : 0 ≤ (x8_1 : Int) := of_decide_eq_true (by first | (with_reducible assumption) | assumption));(have q181 : x8_1 < (l1.length : Int) := of_decide_eq_true (by first | (with_reducible assumption) | assumption));(obtain ⟨ad181, e181, hx181_0⟩ := Kd.at_int HR1.out x8_1 p181 q181);(cases e181);(replace hx181_0 := (HB.out.cell (World.block_lt_of_cell? w _ hx181_0)).trans hx181_0);(replace p181 := eq_true p181);(replace q181 := eq_true q181);(have p182 : 0 ≤ (x8_1 : Int) := of_decide_eq_true (by first | (with_reducible assumption) | assumption));(have q182 : x8_1 < (l0_3.length : Int) := of_decide_eq_true (by first | (with_reducible assumption) | assumption));(obtain ⟨ad182, e182, hx182_0, hx182_1, hx182_2⟩ := at_T49 HR0_3.out x8_1 p182 q182);(obtain rfl : ad180 = ad182 := (by injection e182));(replace hx182_0 := (HB.out.cell (World.block_lt_of_cell? w _ hx182_0)).trans hx182_0);(replace hx182_1 := (HB.out.cell (World.block_lt_of_cell? w _ hx182_1)).trans hx182_1);(replace hx182_2 := (HB.out.cell (World.block_lt_of_cell? w _ hx182_2)).trans hx182_2);(replace p182 := eq_true p182);(replace q182 := eq_true q182)
         go_wp2
         go_roundg k1
         case measure => have := HK1.out; omega
         case rel => exact ⟨(wrap64 (x7_1 + (rd l1 x8_1))), (wrap64 (x8_1 + 1)), (by first | rfl | (simp; done) | (simp [*]; done)), (by first | rfl | (simp; done) | (simp [*]; done)), H', ⟨by have := HK1.out; omega⟩, ⟨by (with_reducible repeat first | refine blk_drewN ?_ _ | refine blk_drew ?_ | refine blk_alloc ?_ _); exact BK179.out⟩, ⟨by repeat (first | (with_reducible first | exact HB.out | apply below_alloc | apply pw_below_drewN | apply below_drew1 | refine below_set ?_ GE179.out) | exact HB.out)⟩⟩
      ·(rw [if_neg c8] at H);(exact absurd H (by simp))
     ·(rw [if_neg c7] at H);(have c7b0 : (((rd_T49 l0_3 x8_1).f1) == a2) = false := beq_eq_false_iff_ne.mpr c7);(have c7b1 : (((rd_T49 l0_3 x8_1).f1) != a2) = true := bne_iff_ne.mpr c7)
      by_cases c12 : ((rd_T49 l0_3 x8_1).f0) = a2
      ·(rw [if_pos c12] at H);(have c12b0 : (((rd_T49 l0_3 x8_1).f0) == a2) = true := beq_iff_eq.mpr c12);(have c12b1 : (((rd_T49 l0_3 x8_1).f0) != a2) = false := bne_eq_false_iff_eq.mpr c12);(clear c12)
       by_cases c13 : x8_1 < (l1.length : Int)
       ·(rw [if_pos c13] at H);(have c13b0 : decide (x8_1 < (l1.length : Int)) = true := decide_eq_true c13);(clear c13)
        as_aux_lemma =>
         (have H' := Aside0.mk H);(clear H);(have hcz14_0 : wr.cell? ⟨gb179, 0, none⟩ = some (.int .i64 a0_0) := (blk_cell BK179.out 0).trans rfl);(have hcz14_1 : wr.cell? ⟨gb179, 1, none⟩ = some (.int .i64 a0_1) := (blk_cell BK179.out 1).trans rfl);(have hcz14_2 : wr.cell? ⟨gb179, 2, none⟩ = some (.int .i64 a0_2) := (blk_cell BK179.out 2).trans rfl);(have hcz14_3 : wr.cell? ⟨gb179, 3, none⟩ = some (.slice A0_3 l0_3.length c0_3) := (blk_cell BK179.out 3).trans rfl);(have hfz14_0 := blk_frozen BK179.out 0);(have hfz14_1 := blk_frozen BK179.out 1);(have hfz14_2 := blk_frozen BK179.out 2);(have hfz14_3 := blk_frozen BK179.out 3);(have p180 : 0 ≤ (x8_1 : Int) := of_decide_eq_true (by first | (with_reducible assumption) | assumption));(have q180 : x8_1 < (l0_3.length : Int) := of_decide_eq_true (by first | (with_reducible assumption) | assumption));(obtain ⟨ad180, e180, hx180_0, hx180_1, hx180_2⟩ := at_T49 HR0_3.out x8_1 p180 q180);(cases e180);(replace hx180_0 := (HB.out.cell (World.block_lt_of_cell? w _ hx180_0)).trans hx180_0);(replace hx180_1 := (HB.out.cell (World.block_lt_of_cell? w _ hx180_1)).trans hx180_1);(replace hx180_2 := (HB.out.cell (World.block_lt_of_cell? w _ hx180_2)).trans hx180_2);(replace p180 := eq_true p180);(replace q180 := eq_true q180);(have p184 : 0 ≤ (x8_1 : Int) := of_decide_eq_true (by first | (with_reducible assumption) | assumption));(have q184 : x8_1 < (l0_3.length : Int) := of_decide_eq_true (by first | (with_reducible assumption) | assumption));(obtain ⟨ad184, e184, hx184_0, hx184_1, hx184_2⟩ := at_T49 HR0_3.out x8_1 p184 q184);(obtain rfl : ad180 = ad184 := (by injection e184));(replace hx184_0 := (HB.out.cell (World.block_lt_of_cell? w _ hx184_0)).trans hx184_0);(replace hx184_1 := (HB.out.cell (World.block_lt_of_cell? w _ hx184_1)).trans hx184_1);(replace hx184_2 := (HB.out.cell (World.block_lt_of_cell? w _ hx184_2)).trans hx184_2);(replace p184 := eq_true p184);(replace q184 := eq_true q184);(have p185 : 0 ≤ (x8_1 : Int) := of_decide_eq_true (by first | (with_reducible assumption) | assumption));(have q185 : x8_1 < (l1.length : Int) := of_decide_eq_true (by first | (with_reducible assumption) | assumption));(obtain ⟨ad185, e185, hx185_0⟩ := Kd.at_int HR1.out x8_1 p185 q185);(cases e185);(replace hx185_0 := (HB.out.cell (World.block_lt_of_cell? w _ hx185_0)).trans hx185_0);(replace p185 := eq_true p185);(replace q185 := eq_true q185)
         go_wp2
         go_roundg k1
         case measure => have := HK1.out; omega
         case rel => exact ⟨(wrap64 (x7_1 - (rd l1 x8_1))), (wrap64 (x8_1 + 1)), (by first | rfl | (simp; done) | (simp [*]; done)), (by first | rfl | (simp; done) | (simp [*]; done)), H', ⟨by have := HK1.out; omega⟩, ⟨by (with_reducible repeat first | refine blk_drewN ?_ _ | refine blk_drew ?_ | refine blk_alloc ?_ _); exact BK179.out⟩, ⟨by repeat (first | (with_reducible first | exact HB.out | apply below_alloc | apply pw_below_drewN | apply below_drew1 | refine below_set ?_ GE179.out) | exact HB.out)⟩⟩
       ·(rw [if_neg c13] at H);(exact absurd H (by simp))
      ·(rw [if_neg c12] at H);(have c12b0 : (((rd_T49 l0_3 x8_1).f0) == a2) = false := beq_eq_false_iff_ne.mpr c12);(have c12b1 : (((rd_T49 l0_3 x8_1).f0) != a2) = true := bne_iff_ne.mpr c12)
       as_aux_lemma =>
        (have H' := Aside0.mk H);(clear H);(have hcz15_0 : wr.cell? ⟨gb179, 0, none⟩ = some (.int .i64 a0_0) := (blk_cell BK179.out 0).trans rfl);(have hcz15_1 : wr.cell? ⟨gb179, 1, none⟩ = some (.int .i64 a0_1) := (blk_cell BK179.out 1).trans rfl);(have hcz15_2 : wr.cell? ⟨gb179, 2, none⟩ = some (.int .i64 a0_2) := (blk_cell BK179.out 2).trans rfl);(have hcz15_3 : wr.cell? ⟨gb179, 3, none⟩ = some (.slice A0_3 l0_3.length c0_3) := (blk_cell BK179.out 3).trans rfl);(have hfz15_0 := blk_frozen BK179.out 0);(have hfz15_1 := blk_frozen BK179.out 1);(have hfz15_2 := blk_frozen BK179.out 2);(have hfz15_3 := blk_frozen BK179.out 3);(have p180 : 0 ≤ (x8_1 : Int) := of_decide_eq_true (by first | (with_reducible assumption) | assumption));(have q180 : x8_1 < (l0_3.length : Int) := of_decide_eq_true (by first | (with_reducible assumption) | assumption));(obtain ⟨ad180, e180, hx180_0, hx180_1, hx180_2⟩ := at_T49 HR0_3.out x8_1 p180 q180);(cases e180);(replace hx180_0 := (HB.out.cell (World.block_lt_of_cell? w _ hx180_0)).trans hx180_0);(replace hx180_1 := (HB.out.cell (World.block_lt_of_cell? w _ hx180_1)).trans hx180_1);(replace hx180_2 := (HB.out.cell (World.block_lt_of_cell? w _ hx180_2)).trans hx180_2);(replace p180 := eq_true p180);(replace q180 := eq_true q180);(have p184 : 0 ≤ (x8_1 : Int) := of_decide_eq_true (by first | (with_reducible assumption) | assumption));(have q184 : x8_1 < (l0_3.length : Int) := of_decide_eq_true (by first | (with_reducible assumption) | assumption));(obtain ⟨ad184, e184, hx184_0, hx184_1, hx184_2⟩ := at_T49 HR0_3.out x8_1 p184 q184);(obtain rfl : ad180 = ad184 := (by injection e184));(replace hx184_0 := (HB.out.cell (World.block_lt_of_cell? w _ hx184_0)).trans hx184_0);(replace hx184_1 := (HB.out.cell (World.block_lt_of_cell? w _ hx184_1)).trans hx184_1);(replace hx184_2 := (HB.out.cell (World.block_lt_of_cell? w _ hx184_2)).trans hx184_2);(replace p184 := eq_true p184);(replace q184 := eq_true q184)
        go_wp2
        go_roundg k1
        case measure => have := HK1.out; omega
        case rel => exact ⟨(x7_1), (wrap64 (x8_1 + 1)), (by first | rfl | (simp; done) | (simp [*]; done)), (by first | rfl | (simp; done) | (simp [*]; done)), H', ⟨by have := HK1.out; omega⟩, ⟨by (with_reducible repeat first | refine blk_drewN ?_ _ | refine blk_drew ?_ | refine blk_alloc ?_ _); exact BK179.out⟩, ⟨by repeat (first | (with_reducible first | exact HB.out | apply below_alloc | apply pw_below_drewN | apply below_drew1 | refine below_set ?_ GE179.out) | exact HB.out)⟩⟩
    ·(rw [if_neg c6] at H);(exact absurd H (by simp))
   ·(rw [if_neg c5] at H);(have c5b0 : decide (x8_1 < (l0_3.length : Int)) = false := decide_eq_false c5);(clear c5)
    as_aux_lemma =>
     (obtain rfl := Option.some.inj H);(have hcz16_0 : wr.cell? ⟨gb179, 0, none⟩ = some (.int .i64 a0_0) := (blk_cell BK179.out 0).trans rfl);(have hcz16_1 : wr.cell? ⟨gb179, 1, none⟩ = some (.int .i64 a0_1) := (blk_cell BK179.out 1).trans rfl);(have hcz16_2 : wr.cell? ⟨gb179, 2, none⟩ = some (.int .i64 a0_2) := (blk_cell BK179.out 2).trans rfl);(have hcz16_3 : wr.cell? ⟨gb179, 3, none⟩ = some (.slice A0_3 l0_3.length c0_3) := (blk_cell BK179.out 3).trans rfl);(have hfz16_0 := blk_frozen BK179.out 0);(have hfz16_1 := blk_frozen BK179.out 1);(have hfz16_2 := blk_frozen BK179.out 2);(have hfz16_3 := blk_frozen BK179.out 3)
     go_wp2
     go_ret
     exact ⟨by first | rfl | (simp [errW_none, errW_some] <;> rfl) | (simp [*, errW_none, errW_some] <;> rfl), by repeat (first | (with_reducible first | exact HB.out | apply below_alloc | apply pw_below_drewN | apply below_drew1 | refine below_set ?_ GE179.out) | exact HB.out)⟩
end Go.Proofs.Ytbppeffcikphcaa.PResidualTells
