/- For the law LevelTells, for every input: printed by a program (wip/myprint), contracts by hand where it says MANUAL. -/
-- slim
import Derived.Test.YtbppeffcikphcaaPLevelTellsx0
namespace Go.Proofs.Ytbppeffcikphcaa.PLevelTells
open Go.RowKit Go.Proofs.YtbppeffcikphcaaW.PrintWords Go.Proofs.YtbppeffcikphcaaW.PrintLast Go.Proofs.YtbppeffcikphcaaW.PrintMore
attribute [local go_sem] max2_int min2_int max_two min_two max_three min_three max_four min_four
set_option linter.unusedVariables false
set_option linter.unusedSimpArgs false
/-! ### q5_excess: function 55 -/
def q5_excess.l0 : Nat → List Int → Int → Int → Int → Int → Int → Int → List (S49) → Option (Int)
 | 0, _, _, _, _, _, _, _, _ => none
 | k + 1, x1, x2, x7, x8, x166000, x166001, x166002, x166003 => if x8 < (x166003.length : Int) then (if 0 ≤ x8 then (if ((rd_T49 x166003 x8).f1) = x2 then (if x8 < (x1.length : Int) then (if ((rd_T49 x166003 x8).f0) = x2 then (q5_excess.l0 k x1 x2 (wrap64 ((wrap64 (x7 + (rd x1 x8))) - (rd x1 x8))) (wrap64 (x8 + 1)) x166000 x166001 x166002 x166003) else (q5_excess.l0 k x1 x2 (wrap64 (x7 + (rd x1 x8))) (wrap64 (x8 + 1)) x166000 x166001 x166002 x166003)) else (none)) else (if ((rd_T49 x166003 x8).f0) = x2 then (if x8 < (x1.length : Int) then (q5_excess.l0 k x1 x2 (wrap64 (x7 - (rd x1 x8))) (wrap64 (x8 + 1)) x166000 x166001 x166002 x166003) else (none)) else (q5_excess.l0 k x1 x2 x7 (wrap64 (x8 + 1)) x166000 x166001 x166002 x166003))) else (none)) else (some x7)
def q5_excess.f (k : Nat) (a0_0 : Int) (a0_1 : Int) (a0_2 : Int) (l0_3 : List (S49)) (l1 : List Int) (a2 : Int) : Option (Int) := q5_excess.l0 k l1 a2 0 0 a0_0 a0_1 a0_2 l0_3
theorem q5_excess.mono_l : ∀ k, (∀ y0 y1 y2 y3 y4 y5 y6 y7, LeO (q5_excess.l0 k y0 y1 y2 y3 y4 y5 y6 y7) (q5_excess.l0 (k + 1) y0 y1 y2 y3 y4 y5 y6 y7))
 | 0 => fun _ _ _ _ _ _ _ _ r h => by simp [q5_excess.l0] at h
 | k + 1 => by
  have ih0 := q5_excess.mono_l k
  ·intro y0 y1 y2 y3 y4 y5 y6 y7
   unfold q5_excess.l0
   repeat' first
   | (with_reducible exact ih0 _ _ _ _ _ _ _ _)
   | (with_reducible exact LeO.refl _)
   | (with_reducible exact LeO.none _)
   | (with_reducible refine LeO.ite ?_ ?_)
   | (with_reducible refine LeO.bind ?_ (fun _ => ?_))
   | exact ih0 _ _ _ _ _ _ _ _
   | exact LeO.none _
   | refine LeO.ite ?_ ?_
   | refine LeO.bind ?_ (fun _ => ?_)
theorem q5_excess.mono : ∀ a0 a1 a2 a3 a4 a5 k, LeO (q5_excess.f k a0 a1 a2 a3 a4 a5) (q5_excess.f (k + 1) a0 a1 a2 a3 a4 a5) := by
 intro a0 a1 a2 a3 a4 a5 k
 have ih0 := q5_excess.mono_l k
 unfold q5_excess.f
 repeat' first
   | (with_reducible exact ih0 _ _ _ _ _ _ _ _)
   | (with_reducible exact LeO.refl _)
   | (with_reducible exact LeO.none _)
   | (with_reducible refine LeO.ite ?_ ?_)
   | (with_reducible refine LeO.bind ?_ (fun _ => ?_))
   | exact ih0 _ _ _ _ _ _ _ _
   | exact LeO.none _
   | refine LeO.ite ?_ ?_
   | refine LeO.bind ?_ (fun _ => ?_)
set_option maxHeartbeats 8000000 in
set_option maxRecDepth 100000 in
theorem q5_excess.calls (k : Nat) (a0_0 : Int) (a0_1 : Int) (a0_2 : Int) (A0_3 : Option Addr) (c0_3 : Nat) (l0_3 : List (S49)) (A1 : Option Addr) (c1 : Nat) (l1 : List Int) (a2 : Int) (r : Int) (w : World) (hr0_3 : Kd.C k49 w A0_3 l0_3.length l0_3) (hc0_3 : l0_3.length ≤ c0_3) (hr1 : Kd.C (Kd.int .i64) w A1 l1.length l1) (hc1 : l1.length ≤ c1) (h : q5_excess.f k a0_0 a0_1 a0_2 l0_3 l1 a2 = some r) :
  Calls Try.prog 55 #[.agg #[.int .i64 a0_0, .int .i64 a0_1, .int .i64 a0_2, .slice A0_3 l0_3.length c0_3], .slice A1 l1.length c1, .int .i64 a2] w fun e w' => e = .returned (.int .i64 r) ∧ Below w.heap.size w w' := by
 have hu27 := Try.underlying27
 have HR0_3 := Aside0.mk hr0_3
 have HC0_3 := Aside0.mk hc0_3
 clear hr0_3 hc0_3
 have HR1 := Aside0.mk hr1
 have HC1 := Aside0.mk hc1
 clear hr1 hc1
 have HB := Aside0.mk (Below.refl w.heap.size w)
 have H : (q5_excess.l0 k l1 a2 0 0 a0_0 a0_1 a0_2 l0_3) = some r := h
 clear h
 have H' := Aside0.mk H
 clear H
 go_enter Try.func55, Try.ntmps55
 go_wp2_with (first | ((with_reducible refine gate_dst (N := 3) rfl ?_); refine box_event ?hg (N := 3) ?hd (cs := #[.int .i64 a0_0, .int .i64 a0_1, .int .i64 a0_2, .slice A0_3 l0_3.length c0_3]) (t := 27) ?hr ?_; (case hd => rfl); (case hg => rfl); (case hr => first | (go_simp; done) | (go_simp; rfl)); intro gb165 hg w4 hbox hb; have n0_ := Aside0.mk (below_step (by repeat (first | (with_reducible first | exact HB.out | apply below_alloc | apply pw_below_drewN | apply below_drew1) | exact HB.out)) hb); have n1_ := Aside0.mk (hbox); have n2_ := Aside0.mk ((by rw [hg]; exact (below_size (by repeat (first | (with_reducible first | exact HB.out | apply below_alloc | apply pw_below_drewN | apply below_drew1) | exact HB.out))) : w.heap.size ≤ gb165)); have n3_ := Aside0.mk ((by rw [hg]; exact (below_size (by repeat (first | (with_reducible first | exact HB.out | apply below_alloc | apply pw_below_drewN | apply below_drew1) | exact HB.out))) : w.heap.size ≤ gb165)); clear HB; have HB := n0_; have BK165 := n1_; have GW165 := n2_; have GE165 := n3_; clear n0_ n1_ n2_ n3_; clear hb hbox hg))
 go_loopg [7, 8] k (fun kq v7 v8 w' => ∃ (x7_1 : Int) (x8_1 : Int), v7 = .int .i64 x7_1 ∧ v8 = .int .i64 x8_1 ∧ Aside0 (q5_excess.l0 kq l1 a2 x7_1 x8_1 a0_0 a0_1 a0_2 l0_3 = some r) ∧ Aside0 (kq ≤ k) ∧ Aside0 (w'.heap[gb165]? = some (.cells #[.int .i64 a0_0, .int .i64 a0_1, .int .i64 a0_2, (.slice A0_3 l0_3.length c0_3)] 27 (0, 0))) ∧ Aside0 (Below w.heap.size w w'))
 case atStart => exact ⟨(0), (0), (by first | rfl | (simp; done) | (simp [*]; done)), (by first | rfl | (simp; done) | (simp [*]; done)), H', ⟨Nat.le_refl _⟩, ⟨by (with_reducible repeat first | refine blk_drewN ?_ _ | refine blk_drew ?_ | refine blk_alloc ?_ _); exact BK165.out⟩, ⟨by repeat (first | (with_reducible first | exact HB.out | apply below_alloc | apply pw_below_drewN | apply below_drew1 | refine below_set ?_ GE165.out) | exact HB.out)⟩⟩
 case round =>
  clear H'
  try clear c1
  try clear p2
  obtain ⟨x7_1, x8_1, rfl, rfl, HA, HK1, BK165, HB⟩ := hrel
  cases gk with
  | zero => exact absurd HA.out (by simp [q5_excess.l0])
  | succ k1 =>
   (have H := HA.out);(clear HA);(simp only [q5_excess.l0] at H)
   by_cases c5 : x8_1 < (l0_3.length : Int)
   ·(rw [if_pos c5] at H);(have c5b0 : decide (x8_1 < (l0_3.length : Int)) = true := decide_eq_true c5);(clear c5)
    by_cases c6 : 0 ≤ x8_1
    ·(rw [if_pos c6] at H);(have c6b0 : decide (0 ≤ x8_1) = true := decide_eq_true c6);(clear c6)
     by_cases c7 : ((rd_T49 l0_3 x8_1).f1) = a2
     ·(rw [if_pos c7] at H);(have c7b0 : (((rd_T49 l0_3 x8_1).f1) == a2) = true := beq_iff_eq.mpr c7);(have c7b1 : (((rd_T49 l0_3 x8_1).f1) != a2) = false := bne_eq_false_iff_eq.mpr c7);(clear c7)
      by_cases c8 : x8_1 < (l1.length : Int)
      ·(rw [if_pos c8] at H);(have c8b0 : decide (x8_1 < (l1.length : Int)) = true := decide_eq_true c8);(clear c8)
       by_cases c9 : ((rd_T49 l0_3 x8_1).f0) = a2
       ·(rw [if_pos c9] at H);(have c9b0 : (((rd_T49 l0_3 x8_1).f0) == a2) = true := beq_iff_eq.mpr c9);(have c9b1 : (((rd_T49 l0_3 x8_1).f0) != a2) = false := bne_eq_false_iff_eq.mpr c9);(clear c9);(have H' := Aside0.mk H);(clear H);(have hcz10_0 : wr.cell? ⟨gb165, 0, none⟩ = some (.int .i64 a0_0) := (blk_cell BK165.out 0).trans rfl);(have hcz10_1 : wr.cell? ⟨gb165, 1, none⟩ = some (.int .i64 a0_1) := (blk_cell BK165.out 1).trans rfl);(have hcz10_2 : wr.cell? ⟨gb165, 2, none⟩ = some (.int .i64 a0_2) := (blk_cell BK165.out 2).trans rfl);(have hcz10_3 : wr.cell? ⟨gb165, 3, none⟩ = some (.slice A0_3 l0_3.length c0_3) := (blk_cell BK165.out 3).trans rfl);(have hfz10_0 := blk_frozen BK165.out 0);(have hfz10_1 := blk_frozen BK165.out 1);(have hfz10_2 := blk_frozen BK165.out 2);(have hfz10_3 := blk_frozen BK165.out 3);(have p166 : 0 ≤ (x8_1 : Int) := of_decide_eq_true (by first | (with_reducible assumption) | assumption));(have q166 : x8_1 < (l0_3.length : Int) := of_decide_eq_true (by first | (with_reducible assumption) | assumption));(obtain ⟨ad166, e166, hx166_0, hx166_1, hx166_2⟩ := at_T49 HR0_3.out x8_1 p166 q166);(cases e166);(replace hx166_0 := (HB.out.cell (World.block_lt_of_cell? w _ hx166_0)).trans hx166_0);(replace hx166_1 := (HB.out.cell (World.block_lt_of_cell? w _ hx166_1)).trans hx166_1);(replace hx166_2 := (HB.out.cell (World.block_lt_of_cell? w _ hx166_2)).trans hx166_2);(replace p166 := eq_true p166);(replace q166 := eq_true q166);(have p167 : 0 ≤ (x8_1 : Int) := of_decide_eq_true (by first | (with_reducible assumption) | assumption));(have q167 : x8_1 < (l1.length : Int) := of_decide_eq_true (by first | (with_reducible assumption) | assumption));(obtain ⟨ad167, e167, hx167_0⟩ := Kd.at_int HR1.out x8_1 p167 q167);(cases e167);(replace hx167_0 := (HB.out.cell (World.block_lt_of_cell? w _ hx167_0)).trans hx167_0);(replace p167 := eq_true p167);(replace q167 := eq_true q167);(have p168 : 0 ≤ (x8_1 : Int) := of_decide_eq_true (by first | (with_reducible assumption) | assumption));(have q168 : x8_1 < (l0_3.length : Int) := of_decide_eq_true (by first | (with_reducible assumption) | assumption));(obtain ⟨ad168, e168, hx168_0, hx168_1, hx168_2⟩ := at_T49 HR0_3.out x8_1 p168 q168);(obtain rfl : ad166 = ad168 := (by injection e168));(replace hx168_0 := (HB.out.cell (World.block_lt_of_cell? w _ hx168_0)).trans hx168_0);(replace hx168_1 := (HB.out.cell (World.block_lt_of_cell? w _ hx168_1)).trans hx168_1);(replace hx168_2 := (HB.out.cell (World.block_lt_of_cell? w _ hx168_2)).trans hx168_2);(replace p168 := eq_true p168);(replace q168 := eq_true q168);(have p169 : 0 ≤ (x8_1 : Int) := of_decide_eq_true (by first | (with_reducible assumption) | assumption));(have q169 : x8_1 < (l1.length : Int) := of_decide_eq_true (by first | (with_reducible assumption) | assumption));(obtain ⟨ad169, e169, hx169_0⟩ := Kd.at_int HR1.out x8_1 p169 q169);(obtain rfl : ad167 = ad169 := (by injection e169));(replace hx169_0 := (HB.out.cell (World.block_lt_of_cell? w _ hx169_0)).trans hx169_0);(replace p169 := eq_true p169);(replace q169 := eq_true q169)
        go_wp2
        go_roundg k1
        case measure => have := HK1.out; omega
        case rel => exact ⟨(wrap64 ((wrap64 (x7_1 + (rd l1 x8_1))) - (rd l1 x8_1))), (wrap64 (x8_1 + 1)), (by first | rfl | (simp; done) | (simp [*]; done)), (by first | rfl | (simp; done) | (simp [*]; done)), H', ⟨by have := HK1.out; omega⟩, ⟨by (with_reducible repeat first | refine blk_drewN ?_ _ | refine blk_drew ?_ | refine blk_alloc ?_ _); exact BK165.out⟩, ⟨by repeat (first | (with_reducible first | exact HB.out | apply below_alloc | apply pw_below_drewN | apply below_drew1 | refine below_set ?_ GE165.out) | exact HB.out)⟩⟩
       ·(rw [if_neg c9] at H);(have c9b0 : (((rd_T49 l0_3 x8_1).f0) == a2) = false := beq_eq_false_iff_ne.mpr c9);(have c9b1 : (((rd_T49 l0_3 x8_1).f0) != a2) = true := bne_iff_ne.mpr c9);(have H' := Aside0.mk H);(clear H);(have hcz11_0 : wr.cell? ⟨gb165, 0, none⟩ = some (.int .i64 a0_0) := (blk_cell BK165.out 0).trans rfl);(have hcz11_1 : wr.cell? ⟨gb165, 1, none⟩ = some (.int .i64 a0_1) := (blk_cell BK165.out 1).trans rfl);(have hcz11_2 : wr.cell? ⟨gb165, 2, none⟩ = some (.int .i64 a0_2) := (blk_cell BK165.out 2).trans rfl);(have hcz11_3 : wr.cell? ⟨gb165, 3, none⟩ = some (.slice A0_3 l0_3.length c0_3) := (blk_cell BK165.out 3).trans rfl);(have hfz11_0 := blk_frozen BK165.out 0);(have hfz11_1 := blk_frozen BK165.out 1);(have hfz11_2 := blk_frozen BK165.out 2);(have hfz11_3 := blk_frozen BK165.out 3);(have p166 : 0 ≤ (x8_1 : Int) := of_decide_eq_true (by first | (with_reducible assumption) | assumption));(have q166 : x8_1 < (l0_3.length : Int) := of_decide_eq_true (by first | (with_reducible assumption) | assumption));(obtain ⟨ad166, e166, hx166_0, hx166_1, hx166_2⟩ := at_T49 HR0_3.out x8_1 p166 q166);(cases e166);(replace hx166_0 := (HB.out.cell (World.block_lt_of_cell? w _ hx166_0)).trans hx166_0);(replace hx166_1 := (HB.out.cell (World.block_lt_of_cell? w _ hx166_1)).trans hx166_1);(replace hx166_2 := (HB.out.cell (World.block_lt_of_cell? w _ hx166_2)).trans hx166_2);(replace p166 := eq_true p166);(replace q166 := eq_true q166);(have p167 : 0 ≤ (x8_1 : Int) := of_decide_eq_true (by first | (with_reducible assumption) | assumption));(have q167 : x8_1 < (l1.length : Int) := of_decide_eq_true (by first | (with_reducible assumption) | assumption));(obtain ⟨ad167, e167, hx167_0⟩ := Kd.at_int HR1.out x8_1 p167 q167);(cases e167);(replace hx167_0 := (HB.out.cell (World.block_lt_of_cell? w _ hx167_0)).trans hx167_0);(replace p167 := eq_true p167);(replace q167 := eq_true q167);(have p168 : 0 ≤ (x8_1 : Int) := of_decide_eq_true (by first | (with_reducible assumption) | assumption));(have q168 : x8_1 < (l0_3.length : Int) := of_decide_eq_true (by first | (with_reducible assumption) | assumption));(obtain ⟨ad168, e168, hx168_0, hx168_1, hx168_2⟩ := at_T49 HR0_3.out x8_1 p168 q168);(obtain rfl : ad166 = ad168 := (by injection e168));(replace hx168_0 := (HB.out.cell (World.block_lt_of_cell? w _ hx168_0)).trans hx168_0);(replace hx168_1 := (HB.out.cell (World.block_lt_of_cell? w _ hx168_1)).trans hx168_1);(replace hx168_2 := (HB.out.cell (World.block_lt_of_cell? w _ hx168_2)).trans hx168_2);(replace p168 := eq_true p168);(replace q168 := eq_true q168)
        go_wp2
        go_roundg k1
        case measure => have := HK1.out; omega
        case rel => exact ⟨(wrap64 (x7_1 + (rd l1 x8_1))), (wrap64 (x8_1 + 1)), (by first | rfl | (simp; done) | (simp [*]; done)), (by first | rfl | (simp; done) | (simp [*]; done)), H', ⟨by have := HK1.out; omega⟩, ⟨by (with_reducible repeat first | refine blk_drewN ?_ _ | refine blk_drew ?_ | refine blk_alloc ?_ _); exact BK165.out⟩, ⟨by repeat (first | (with_reducible first | exact HB.out | apply below_alloc | apply pw_below_drewN | apply below_drew1 | refine below_set ?_ GE165.out) | exact HB.out)⟩⟩
      ·(rw [if_neg c8] at H);(exact absurd H (by simp))
     ·(rw [if_neg c7] at H);(have c7b0 : (((rd_T49 l0_3 x8_1).f1) == a2) = false := beq_eq_false_iff_ne.mpr c7);(have c7b1 : (((rd_T49 l0_3 x8_1).f1) != a2) = true := bne_iff_ne.mpr c7)
      by_cases c12 : ((rd_T49 l0_3 x8_1).f0) = a2
      ·(rw [if_pos c12] at H);(have c12b0 : (((rd_T49 l0_3 x8_1).f0) == a2) = true := beq_iff_eq.mpr c12);(have c12b1 : (((rd_T49 l0_3 x8_1).f0) != a2) = false := bne_eq_false_iff_eq.mpr c12);(clear c12)
       by_cases c13 : x8_1 < (l1.length : Int)
       ·(rw [if_pos c13] at H);(have c13b0 : decide (x8_1 < (l1.length : Int)) = true := decide_eq_true c13);(clear c13);(have H' := Aside0.mk H);(clear H);(have hcz14_0 : wr.cell? ⟨gb165, 0, none⟩ = some (.int .i64 a0_0) := (blk_cell BK165.out 0).trans rfl);(have hcz14_1 : wr.cell? ⟨gb165, 1, none⟩ = some (.int .i64 a0_1) := (blk_cell BK165.out 1).trans rfl);(have hcz14_2 : wr.cell? ⟨gb165, 2, none⟩ = some (.int .i64 a0_2) := (blk_cell BK165.out 2).trans rfl);(have hcz14_3 : wr.cell? ⟨gb165, 3, none⟩ = some (.slice A0_3 l0_3.length c0_3) := (blk_cell BK165.out 3).trans rfl);(have hfz14_0 := blk_frozen BK165.out 0);(have hfz14_1 := blk_frozen BK165.out 1);(have hfz14_2 := blk_frozen BK165.out 2);(have hfz14_3 := blk_frozen BK165.out 3);(have p166 : 0 ≤ (x8_1 : Int) := of_decide_eq_true (by first | (with_reducible assumption) | assumption));(have q166 : x8_1 < (l0_3.length : Int) := of_decide_eq_true (by first | (with_reducible assumption) | assumption));(obtain ⟨ad166, e166, hx166_0, hx166_1, hx166_2⟩ := at_T49 HR0_3.out x8_1 p166 q166);(cases e166);(replace hx166_0 := (HB.out.cell (World.block_lt_of_cell? w _ hx166_0)).trans hx166_0);(replace hx166_1 := (HB.out.cell (World.block_lt_of_cell? w _ hx166_1)).trans hx166_1);(replace hx166_2 := (HB.out.cell (World.block_lt_of_cell? w _ hx166_2)).trans hx166_2);(replace p166 := eq_true p166);(replace q166 := eq_true q166);(have p170 : 0 ≤ (x8_1 : Int) := of_decide_eq_true (by first | (with_reducible assumption) | assumption));(have q170 : x8_1 < (l0_3.length : Int) := of_decide_eq_true (by first | (with_reducible assumption) | assumption));(obtain ⟨ad170, e170, hx170_0, hx170_1, hx170_2⟩ := at_T49 HR0_3.out x8_1 p170 q170);(obtain rfl : ad166 = ad170 := (by injection e170));(replace hx170_0 := (HB.out.cell (World.block_lt_of_cell? w _ hx170_0)).trans hx170_0);(replace hx170_1 := (HB.out.cell (World.block_lt_of_cell? w _ hx170_1)).trans hx170_1);(replace hx170_2 := (HB.out.cell (World.block_lt_of_cell? w _ hx170_2)).trans hx170_2);(replace p170 := eq_true p170);(replace q170 := eq_true q170);(have p171 : 0 ≤ (x8_1 : Int) := of_decide_eq_true (by first | (with_reducible assumption) | assumption));(have q171 : x8_1 < (l1.length : Int) := of_decide_eq_true (by first | (with_reducible assumption) | assumption));(obtain ⟨ad171, e171, hx171_0⟩ := Kd.at_int HR1.out x8_1 p171 q171);(cases e171);(replace hx171_0 := (HB.out.cell (World.block_lt_of_cell? w _ hx171_0)).trans hx171_0);(replace p171 := eq_true p171);(replace q171 := eq_true q171)
        go_wp2
        go_roundg k1
        case measure => have := HK1.out; omega
        case rel => exact ⟨(wrap64 (x7_1 - (rd l1 x8_1))), (wrap64 (x8_1 + 1)), (by first | rfl | (simp; done) | (simp [*]; done)), (by first | rfl | (simp; done) | (simp [*]; done)), H', ⟨by have := HK1.out; omega⟩, ⟨by (with_reducible repeat first | refine blk_drewN ?_ _ | refine blk_drew ?_ | refine blk_alloc ?_ _); exact BK165.out⟩, ⟨by repeat (first | (with_reducible first | exact HB.out | apply below_alloc | apply pw_below_drewN | apply below_drew1 | refine below_set ?_ GE165.out) | exact HB.out)⟩⟩
       ·(rw [if_neg c13] at H);(exact absurd H (by simp))
      ·(rw [if_neg c12] at H);(have c12b0 : (((rd_T49 l0_3 x8_1).f0) == a2) = false := beq_eq_false_iff_ne.mpr c12);(have c12b1 : (((rd_T49 l0_3 x8_1).f0) != a2) = true := bne_iff_ne.mpr c12);(have H' := Aside0.mk H);(clear H);(have hcz15_0 : wr.cell? ⟨gb165, 0, none⟩ = some (.int .i64 a0_0) := (blk_cell BK165.out 0).trans rfl);(have hcz15_1 : wr.cell? ⟨gb165, 1, none⟩ = some (.int .i64 a0_1) := (blk_cell BK165.out 1).trans rfl);(have hcz15_2 : wr.cell? ⟨gb165, 2, none⟩ = some (.int .i64 a0_2) := (blk_cell BK165.out 2).trans rfl);(have hcz15_3 : wr.cell? ⟨gb165, 3, none⟩ = some (.slice A0_3 l0_3.length c0_3) := (blk_cell BK165.out 3).trans rfl);(have hfz15_0 := blk_frozen BK165.out 0);(have hfz15_1 := blk_frozen BK165.out 1);(have hfz15_2 := blk_frozen BK165.out 2);(have hfz15_3 := blk_frozen BK165.out 3);(have p166 : 0 ≤ (x8_1 : Int) := of_decide_eq_true (by first | (with_reducible assumption) | assumption));(have q166 : x8_1 < (l0_3.length : Int) := of_decide_eq_true (by first | (with_reducible assumption) | assumption));(obtain ⟨ad166, e166, hx166_0, hx166_1, hx166_2⟩ := at_T49 HR0_3.out x8_1 p166 q166);(cases e166);(replace hx166_0 := (HB.out.cell (World.block_lt_of_cell? w _ hx166_0)).trans hx166_0);(replace hx166_1 := (HB.out.cell (World.block_lt_of_cell? w _ hx166_1)).trans hx166_1);(replace hx166_2 := (HB.out.cell (World.block_lt_of_cell? w _ hx166_2)).trans hx166_2);(replace p166 := eq_true p166);(replace q166 := eq_true q166);(have p170 : 0 ≤ (x8_1 : Int) := of_decide_eq_true (by first | (with_reducible assumption) | assumption));(have q170 : x8_1 < (l0_3.length : Int) := of_decide_eq_true (by first | (with_reducible assumption) | assumption));(obtain ⟨ad170, e170, hx170_0, hx170_1, hx170_2⟩ := at_T49 HR0_3.out x8_1 p170 q170);(obtain rfl : ad166 = ad170 := (by injection e170));(replace hx170_0 := (HB.out.cell (World.block_lt_of_cell? w _ hx170_0)).trans hx170_0);(replace hx170_1 := (HB.out.cell (World.block_lt_of_cell? w _ hx170_1)).trans hx170_1);(replace hx170_2 := (HB.out.cell (World.block_lt_of_cell? w _ hx170_2)).trans hx170_2);(replace p170 := eq_true p170);(replace q170 := eq_true q170)
       go_wp2
       go_roundg k1
       case measure => have := HK1.out; omega
       case rel => exact ⟨(x7_1), (wrap64 (x8_1 + 1)), (by first | rfl | (simp; done) | (simp [*]; done)), (by first | rfl | (simp; done) | (simp [*]; done)), H', ⟨by have := HK1.out; omega⟩, ⟨by (with_reducible repeat first | refine blk_drewN ?_ _ | refine blk_drew ?_ | refine blk_alloc ?_ _); exact BK165.out⟩, ⟨by repeat (first | (with_reducible first | exact HB.out | apply below_alloc | apply pw_below_drewN | apply below_drew1 | refine below_set ?_ GE165.out) | exact HB.out)⟩⟩
    ·(rw [if_neg c6] at H);(exact absurd H (by simp))
   ·(rw [if_neg c5] at H);(have c5b0 : decide (x8_1 < (l0_3.length : Int)) = false := decide_eq_false c5);(clear c5);(obtain rfl := Option.some.inj H);(have hcz16_0 : wr.cell? ⟨gb165, 0, none⟩ = some (.int .i64 a0_0) := (blk_cell BK165.out 0).trans rfl);(have hcz16_1 : wr.cell? ⟨gb165, 1, none⟩ = some (.int .i64 a0_1) := (blk_cell BK165.out 1).trans rfl);(have hcz16_2 : wr.cell? ⟨gb165, 2, none⟩ = some (.int .i64 a0_2) := (blk_cell BK165.out 2).trans rfl);(have hcz16_3 : wr.cell? ⟨gb165, 3, none⟩ = some (.slice A0_3 l0_3.length c0_3) := (blk_cell BK165.out 3).trans rfl);(have hfz16_0 := blk_frozen BK165.out 0);(have hfz16_1 := blk_frozen BK165.out 1);(have hfz16_2 := blk_frozen BK165.out 2);(have hfz16_3 := blk_frozen BK165.out 3)
    go_wp2
    go_ret
    exact ⟨by first | rfl | (simp [errW_none, errW_some] <;> rfl) | (simp [*, errW_none, errW_some] <;> rfl), by repeat (first | (with_reducible first | exact HB.out | apply below_alloc | apply pw_below_drewN | apply below_drew1 | refine below_set ?_ GE165.out) | exact HB.out)⟩
end Go.Proofs.Ytbppeffcikphcaa.PLevelTells
