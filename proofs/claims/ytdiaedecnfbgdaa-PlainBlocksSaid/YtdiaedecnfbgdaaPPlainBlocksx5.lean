/- For the law PlainBlocks, for every input: printed by a program (wip/myprint), contracts by hand where it says MANUAL. -/
-- slim5
-- slim
import Derived.Test.YtdiaedecnfbgdaaPPlainBlocksx0
import Derived.Test.YtdiaedecnfbgdaaPPlainBlocksx1
import Derived.Test.YtdiaedecnfbgdaaPPlainBlocksx4
namespace Go.Proofs.Ytdiaedecnfbgdaa.PPlainBlocks
open Go.RowKit Go.Proofs.YtdiaedecnfbgdaaW.PrintWords Go.Proofs.YtdiaedecnfbgdaaW.PrintLast Go.Proofs.YtdiaedecnfbgdaaW.PrintMore
attribute [local go_sem] max2_int min2_int max_two min_two max_three min_three max_four min_four
set_option linter.unusedVariables false
set_option linter.unusedSimpArgs false
/-! ### flow_Check: function 34 -/
def flow_Check.l0 : Nat → List Int → Int → Int → Int → Int → Int → List (S30) → Option (Int)
 | 0, _, _, _, _, _, _, _ => none
 | k + 1, x6, x19, x20, x118000, x118001, x118002, x118003 => if x20 < x19 then (if (wrap64 (x20 + 1)) = x118001 then (flow_Check.l0 k x6 x19 (wrap64 (x20 + 1)) x118000 x118001 x118002 x118003) else (if (wrap64 (x20 + 1)) = x118002 then (flow_Check.l0 k x6 x19 (wrap64 (x20 + 1)) x118000 x118001 x118002 x118003) else (if 0 ≤ (wrap64 (x20 + 1)) then (if (wrap64 (x20 + 1)) < (x6.length : Int) then (if (rd x6 (wrap64 (x20 + 1))) = 0 then (flow_Check.l0 k x6 x19 (wrap64 (x20 + 1)) x118000 x118001 x118002 x118003) else (some 9)) else (none)) else (none)))) else (some 0)
def flow_Check.f (k : Nat) (a0_0 : Int) (a0_1 : Int) (a0_2 : Int) (l0_3 : List (S30)) (l1 : List Int) : Option (Int) := (flow_within.f k a0_0 a0_1 a0_2 l0_3 l1).bind fun t118 => (if t118 = 0 then ((flow_excesses.f k a0_0 a0_1 a0_2 l0_3 l1).bind fun t119 => (flow_Check.l0 k t119 a0_0 0 a0_0 a0_1 a0_2 l0_3)) else (some t118))
theorem flow_Check.mono_l : ∀ k, (∀ y0 y1 y2 y3 y4 y5 y6, LeO (flow_Check.l0 k y0 y1 y2 y3 y4 y5 y6) (flow_Check.l0 (k + 1) y0 y1 y2 y3 y4 y5 y6))
 | 0 => fun _ _ _ _ _ _ _ r h => by simp [flow_Check.l0] at h
 | k + 1 => by
  have ih0 := flow_Check.mono_l k
  ·intro y0 y1 y2 y3 y4 y5 y6
   unfold flow_Check.l0
   repeat' first
   | (with_reducible exact ih0 _ _ _ _ _ _ _)
   | (with_reducible exact flow_excesses.mono _ _ _ _ _ _)
   | (with_reducible exact flow_within.mono _ _ _ _ _ _)
   | (with_reducible exact LeO.refl _)
   | (with_reducible exact LeO.none _)
   | (with_reducible refine LeO.ite ?_ ?_)
   | (with_reducible refine LeO.bind ?_ (fun _ => ?_))
   | exact ih0 _ _ _ _ _ _ _
   | exact flow_excesses.mono _ _ _ _ _ _
   | exact flow_within.mono _ _ _ _ _ _
   | exact LeO.none _
   | refine LeO.ite ?_ ?_
   | refine LeO.bind ?_ (fun _ => ?_)
theorem flow_Check.mono : ∀ a0 a1 a2 a3 a4 k, LeO (flow_Check.f k a0 a1 a2 a3 a4) (flow_Check.f (k + 1) a0 a1 a2 a3 a4) := by
 intro a0 a1 a2 a3 a4 k; (have ih0 := flow_Check.mono_l k); (unfold flow_Check.f)
 repeat' first
   | (with_reducible exact ih0 _ _ _ _ _ _ _)
   | (with_reducible exact flow_excesses.mono _ _ _ _ _ _)
   | (with_reducible exact flow_within.mono _ _ _ _ _ _)
   | (with_reducible exact LeO.refl _)
   | (with_reducible exact LeO.none _)
   | (with_reducible refine LeO.ite ?_ ?_)
   | (with_reducible refine LeO.bind ?_ (fun _ => ?_))
   | exact ih0 _ _ _ _ _ _ _
   | exact flow_excesses.mono _ _ _ _ _ _
   | exact flow_within.mono _ _ _ _ _ _
   | exact LeO.none _
   | refine LeO.ite ?_ ?_
   | refine LeO.bind ?_ (fun _ => ?_)
set_option maxHeartbeats 8000000 in
set_option maxRecDepth 100000 in
theorem flow_Check.calls (k : Nat) (a0_0 : Int) (a0_1 : Int) (a0_2 : Int) (A0_3 : Option Addr) (c0_3 : Nat) (l0_3 : List (S30)) (A1 : Option Addr) (c1 : Nat) (l1 : List Int) (r : Int) (w : World) (hr0_3 : Kd.C k30 w A0_3 l0_3.length l0_3) (hc0_3 : l0_3.length ≤ c0_3) (hr1 : Kd.C (Kd.int .i64) w A1 l1.length l1) (hc1 : l1.length ≤ c1) (h : flow_Check.f k a0_0 a0_1 a0_2 l0_3 l1 = some r) :
  Calls Try.prog 34 #[.agg #[.int .i64 a0_0, .int .i64 a0_1, .int .i64 a0_2, .slice A0_3 l0_3.length c0_3], .slice A1 l1.length c1] w fun e w' => e = .returned (.int .i64 r) ∧ Below w.heap.size w w' := by
 (have hu26 := Try.underlying26); (have HR0_3 := Aside0.mk hr0_3); (have HC0_3 := Aside0.mk hc0_3); clear hr0_3 hc0_3; (have HR1 := Aside0.mk hr1); (have HC1 := Aside0.mk hc1); clear hr1 hc1; (have HB := Aside0.mk (Below.refl w.heap.size w)); (have H : ((flow_within.f k a0_0 a0_1 a0_2 l0_3 l1).bind fun t118 => (if t118 = 0 then ((flow_excesses.f k a0_0 a0_1 a0_2 l0_3 l1).bind fun t119 => (flow_Check.l0 k t119 a0_0 0 a0_0 a0_1 a0_2 l0_3)) else (some t118))) = some r := h); clear h; (replace H := Option.bind_eq_some_iff.mp H); (obtain ⟨t118, A30, H⟩ := H); (replace H : (if t118 = 0 then ((flow_excesses.f k a0_0 a0_1 a0_2 l0_3 l1).bind fun t119 => (flow_Check.l0 k t119 a0_0 0 a0_0 a0_1 a0_2 l0_3)) else (some t118)) = some r := H); (have A3 := Aside0.mk A30); clear A30; (by_cases c4 : t118 = 0)
 ·rw [if_pos c4] at H
  (have c4b0 : (t118 == 0) = true := beq_iff_eq.mpr c4); (have c4b1 : (t118 != 0) = false := bne_eq_false_iff_eq.mpr c4); clear c4; (replace H := Option.bind_eq_some_iff.mp H); (obtain ⟨t119, A50, H⟩ := H); (replace H : (flow_Check.l0 k t119 a0_0 0 a0_0 a0_1 a0_2 l0_3) = some r := H); (have A5 := Aside0.mk A50); clear A50; (have H' := Aside0.mk H); clear H; (go_enter Try.func34, Try.ntmps34); (go_wp2_with (first | ((with_reducible refine gate_dst (N := 2) rfl ?_); refine box_event ?hg (N := 2) ?hd (cs := #[.int .i64 a0_0, .int .i64 a0_1, .int .i64 a0_2, .slice A0_3 l0_3.length c0_3]) (t := 26) ?hr ?_; (case hd => rfl); (case hg => rfl); (case hr => first | (go_simp; done) | (go_simp; rfl)); intro gb117 hg w6 hbox hb; have n0_ := Aside0.mk (below_step (by repeat (first | (with_reducible first | exact HB.out | apply below_alloc | apply pw_below_drewN | apply below_drew1) | exact HB.out)) hb); have n1_ := Aside0.mk (hbox); have n2_ := Aside0.mk ((by rw [hg]; exact (below_size (by repeat (first | (with_reducible first | exact HB.out | apply below_alloc | apply pw_below_drewN | apply below_drew1) | exact HB.out))) : w.heap.size ≤ gb117)); have n3_ := Aside0.mk ((by rw [hg]; exact (below_size (by repeat (first | (with_reducible first | exact HB.out | apply below_alloc | apply pw_below_drewN | apply below_drew1) | exact HB.out))) : w.heap.size ≤ gb117)); clear HB; have HB := n0_; have BK117 := n1_; have GW117 := n2_; have GE117 := n3_; clear n0_ n1_ n2_ n3_; clear hb hbox hg; have hcz7_0 : w6.cell? ⟨gb117, 0, none⟩ = some (.int .i64 a0_0) := (blk_cell BK117.out 0).trans rfl; have hcz7_1 : w6.cell? ⟨gb117, 1, none⟩ = some (.int .i64 a0_1) := (blk_cell BK117.out 1).trans rfl; have hcz7_2 : w6.cell? ⟨gb117, 2, none⟩ = some (.int .i64 a0_2) := (blk_cell BK117.out 2).trans rfl; have hcz7_3 : w6.cell? ⟨gb117, 3, none⟩ = some (.slice A0_3 l0_3.length c0_3) := (blk_cell BK117.out 3).trans rfl; have hfz7_0 := blk_frozen BK117.out 0; have hfz7_1 := blk_frozen BK117.out 1; have hfz7_2 := blk_frozen BK117.out 2; have hfz7_3 := blk_frozen BK117.out 3) | ((with_reducible refine gate_callee (f := 50) rfl ?_); refine goesL_ (some 11) rfl rfl Try.func50 (by kernel_rfl) rfl #[.agg #[.int .i64 a0_0, .int .i64 a0_1, .int .i64 a0_2, .slice A0_3 l0_3.length c0_3], .slice A1 l1.length c1] rfl (by (try simp only [List.map_toArray, List.map_cons, List.map_nil]); first | done | rfl | (simp only [List.length_drop, List.length_take]; rfl)) ?_; (with_reducible refine (flow_within.calls k a0_0 a0_1 a0_2 _ _ l0_3 _ _ l1 t118 _ ?side1 ?side2 ?side3 ?side4 A3.out).mono ?_); (case side1 => repeat (first | exact (Kd.C_below HR0_3.out HB.out) | (with_reducible refine Kd.C_alloc ?_ _) | (with_reducible refine Kd.C_drewN ?_ _) | (with_reducible refine Kd.C_drew ?_))); (case side2 => exact HC0_3.out); (case side3 => repeat (first | exact (Kd.C_below HR1.out HB.out) | (with_reducible refine Kd.C_alloc ?_ _) | (with_reducible refine Kd.C_drewN ?_ _) | (with_reducible refine Kd.C_drew ?_))); (case side4 => exact HC1.out); rintro e w8 ⟨rfl, hb⟩; refine ⟨_, rfl, ?_⟩; have n0_ := Aside0.mk (blk_below (g := gb117) (o := .cells #[.int .i64 a0_0, .int .i64 a0_1, .int .i64 a0_2, .slice A0_3 l0_3.length c0_3] 26 (0, 0)) (by (with_reducible repeat first | refine blk_drewN ?_ _ | refine blk_drew ?_ | refine blk_alloc ?_ _); exact BK117.out) hb); have n1_ := Aside0.mk (below_step (by repeat (first | (with_reducible first | exact HB.out | apply below_alloc | apply pw_below_drewN | apply below_drew1 | refine below_set ?_ GE117.out) | exact HB.out)) hb); clear BK117; clear HB; have BK117 := n0_; have HB := n1_; clear n0_ n1_; (try clear hb); have hcz9_0 : w8.cell? ⟨gb117, 0, none⟩ = some (.int .i64 a0_0) := (blk_cell BK117.out 0).trans rfl; have hcz9_1 : w8.cell? ⟨gb117, 1, none⟩ = some (.int .i64 a0_1) := (blk_cell BK117.out 1).trans rfl; have hcz9_2 : w8.cell? ⟨gb117, 2, none⟩ = some (.int .i64 a0_2) := (blk_cell BK117.out 2).trans rfl; have hcz9_3 : w8.cell? ⟨gb117, 3, none⟩ = some (.slice A0_3 l0_3.length c0_3) := (blk_cell BK117.out 3).trans rfl; have hfz9_0 := blk_frozen BK117.out 0; have hfz9_1 := blk_frozen BK117.out 1; have hfz9_2 := blk_frozen BK117.out 2; have hfz9_3 := blk_frozen BK117.out 3) | ((with_reducible refine gate_callee (f := 41) rfl ?_); refine goesL_ (some 17) rfl rfl Try.func41 (by kernel_rfl) rfl #[.agg #[.int .i64 a0_0, .int .i64 a0_1, .int .i64 a0_2, .slice A0_3 l0_3.length c0_3], .slice A1 l1.length c1] rfl (by (try simp only [List.map_toArray, List.map_cons, List.map_nil]); first | done | rfl | (simp only [List.length_drop, List.length_take]; rfl)) ?_; (with_reducible refine (flow_excesses.calls k a0_0 a0_1 a0_2 _ _ l0_3 _ _ l1 t119 _ ?side1 ?side2 ?side3 ?side4 A5.out).mono ?_); (case side1 => repeat (first | exact (Kd.C_below HR0_3.out HB.out) | (with_reducible refine Kd.C_alloc ?_ _) | (with_reducible refine Kd.C_drewN ?_ _) | (with_reducible refine Kd.C_drew ?_))); (case side2 => exact HC0_3.out); (case side3 => repeat (first | exact (Kd.C_below HR1.out HB.out) | (with_reducible refine Kd.C_alloc ?_ _) | (with_reducible refine Kd.C_drewN ?_ _) | (with_reducible refine Kd.C_drew ?_))); (case side4 => exact HC1.out); rintro e w10 ⟨v120, rfl, ho0, hb⟩; refine ⟨_, rfl, ?_⟩; have n0_ := Aside0.mk (Kd.R_lower ho0 (below_size (by repeat (first | (with_reducible first | exact HB.out | apply below_alloc | apply pw_below_drewN | apply below_drew1 | refine below_set ?_ GE117.out) | exact HB.out)))); have n1_ := Aside0.mk (blk_below (g := gb117) (o := .cells #[.int .i64 a0_0, .int .i64 a0_1, .int .i64 a0_2, .slice A0_3 l0_3.length c0_3] 26 (0, 0)) (by (with_reducible repeat first | refine blk_drewN ?_ _ | refine blk_drew ?_ | refine blk_alloc ?_ _); exact BK117.out) hb); have n2_ := Aside0.mk (below_step (by repeat (first | (with_reducible first | exact HB.out | apply below_alloc | apply pw_below_drewN | apply below_drew1 | refine below_set ?_ GE117.out) | exact HB.out)) hb); clear BK117; clear HB; have HO121 := n0_; have BK117 := n1_; have HB := n2_; clear n0_ n1_ n2_; (try clear hb); (try clear ho0); have hcz11_0 : w10.cell? ⟨gb117, 0, none⟩ = some (.int .i64 a0_0) := (blk_cell BK117.out 0).trans rfl; have hcz11_1 : w10.cell? ⟨gb117, 1, none⟩ = some (.int .i64 a0_1) := (blk_cell BK117.out 1).trans rfl; have hcz11_2 : w10.cell? ⟨gb117, 2, none⟩ = some (.int .i64 a0_2) := (blk_cell BK117.out 2).trans rfl; have hcz11_3 : w10.cell? ⟨gb117, 3, none⟩ = some (.slice A0_3 l0_3.length c0_3) := (blk_cell BK117.out 3).trans rfl; have hfz11_0 := blk_frozen BK117.out 0; have hfz11_1 := blk_frozen BK117.out 1; have hfz11_2 := blk_frozen BK117.out 2; have hfz11_3 := blk_frozen BK117.out 3)))
  go_loopg [20] k (fun kq v20 w' => ∃ (x20_1 : Int), v20 = .int .i64 x20_1 ∧ Aside0 (flow_Check.l0 kq t119 a0_0 x20_1 a0_0 a0_1 a0_2 l0_3 = some r) ∧ Aside0 (kq ≤ k) ∧ Aside0 (Kd.R (Kd.int .i64) 2 w' w.heap.size (fun _ => True) v120 t119) ∧ Aside0 (w'.heap[gb117]? = some (.cells #[.int .i64 a0_0, .int .i64 a0_1, .int .i64 a0_2, (.slice A0_3 l0_3.length c0_3)] 26 (0, 0))) ∧ Aside0 (Below w.heap.size w w'))
  case atStart => exact ⟨(0), (by first | rfl | (simp; done) | (simp [*]; done)), H', ⟨Nat.le_refl _⟩, ⟨by (with_reducible repeat first | apply Kd.R_alloc | apply Kd.R_drewN | apply Kd.R_drew); exact HO121.out⟩, ⟨by (with_reducible repeat first | refine blk_drewN ?_ _ | refine blk_drew ?_ | refine blk_alloc ?_ _); exact BK117.out⟩, ⟨by repeat (first | (with_reducible first | exact HB.out | apply below_alloc | apply pw_below_drewN | apply below_drew1 | refine below_set ?_ GE117.out) | exact HB.out)⟩⟩
  case round =>
   clear H'
   try clear c1
   try clear p2
   try clear c3
   try clear c4
   try clear c4b0
   try clear c4b1
   try clear c5
   try clear hcz11_0
   try clear hcz11_1
   try clear hcz11_2
   try clear hcz11_3
   try clear hcz7_0
   try clear hcz7_1
   try clear hcz7_2
   try clear hcz7_3
   try clear hcz9_0
   try clear hcz9_1
   try clear hcz9_2
   try clear hcz9_3
   try clear hfz11_0
   try clear hfz11_1
   try clear hfz11_2
   try clear hfz11_3
   try clear hfz7_0
   try clear hfz7_1
   try clear hfz7_2
   try clear hfz7_3
   try clear hfz9_0
   try clear hfz9_1
   try clear hfz9_2
   try clear hfz9_3
   obtain ⟨x20_1, rfl, HA, HK1, HO_6, BK117, HB⟩ := hrel
   cases gk with
   | zero => exact absurd HA.out (by simp [flow_Check.l0])
   | succ k1 =>
    ((have H := HA.out);(clear HA);(simp only [flow_Check.l0] at H)); (by_cases c12 : x20_1 < a0_0)
    ·(rw [if_pos c12] at H);(have c12b0 : decide (x20_1 < a0_0) = true := decide_eq_true c12);(clear c12)
     by_cases c13 : (wrap64 (x20_1 + 1)) = a0_1
     ·(rw [if_pos c13] at H);(have c13b0 : ((wrap64 (x20_1 + 1)) == a0_1) = true := beq_iff_eq.mpr c13);(have c13b1 : ((wrap64 (x20_1 + 1)) != a0_1) = false := bne_eq_false_iff_eq.mpr c13);(clear c13)
      as_aux_lemma =>
       ((have H' := Aside0.mk H);(clear H);(have hcz14_0 : wr.cell? ⟨gb117, 0, none⟩ = some (.int .i64 a0_0) := (blk_cell BK117.out 0).trans rfl);(have hcz14_1 : wr.cell? ⟨gb117, 1, none⟩ = some (.int .i64 a0_1) := (blk_cell BK117.out 1).trans rfl);(have hcz14_2 : wr.cell? ⟨gb117, 2, none⟩ = some (.int .i64 a0_2) := (blk_cell BK117.out 2).trans rfl);(have hcz14_3 : wr.cell? ⟨gb117, 3, none⟩ = some (.slice A0_3 l0_3.length c0_3) := (blk_cell BK117.out 3).trans rfl);(have hfz14_0 := blk_frozen BK117.out 0);(have hfz14_1 := blk_frozen BK117.out 1);(have hfz14_2 := blk_frozen BK117.out 2);(have hfz14_3 := blk_frozen BK117.out 3)); (go_wp2); (go_roundg k1)
       case measure => have := HK1.out; omega
       case rel => exact ⟨(wrap64 (x20_1 + 1)), (by first | rfl | (simp; done) | (simp [*]; done)), H', ⟨by have := HK1.out; omega⟩, ⟨by (with_reducible repeat first | apply Kd.R_alloc | apply Kd.R_drewN | apply Kd.R_drew); exact HO_6.out⟩, ⟨by (with_reducible repeat first | refine blk_drewN ?_ _ | refine blk_drew ?_ | refine blk_alloc ?_ _); exact BK117.out⟩, ⟨by repeat (first | (with_reducible first | exact HB.out | apply below_alloc | apply pw_below_drewN | apply below_drew1 | refine below_set ?_ GE117.out) | exact HB.out)⟩⟩
     ·(rw [if_neg c13] at H);(have c13b0 : ((wrap64 (x20_1 + 1)) == a0_1) = false := beq_eq_false_iff_ne.mpr c13);(have c13b1 : ((wrap64 (x20_1 + 1)) != a0_1) = true := bne_iff_ne.mpr c13)
      by_cases c15 : (wrap64 (x20_1 + 1)) = a0_2
      ·(rw [if_pos c15] at H);(have c15b0 : ((wrap64 (x20_1 + 1)) == a0_2) = true := beq_iff_eq.mpr c15);(have c15b1 : ((wrap64 (x20_1 + 1)) != a0_2) = false := bne_eq_false_iff_eq.mpr c15);(clear c15)
       as_aux_lemma =>
        ((have H' := Aside0.mk H);(clear H);(have hcz16_0 : wr.cell? ⟨gb117, 0, none⟩ = some (.int .i64 a0_0) := (blk_cell BK117.out 0).trans rfl);(have hcz16_1 : wr.cell? ⟨gb117, 1, none⟩ = some (.int .i64 a0_1) := (blk_cell BK117.out 1).trans rfl);(have hcz16_2 : wr.cell? ⟨gb117, 2, none⟩ = some (.int .i64 a0_2) := (blk_cell BK117.out 2).trans rfl);(have hcz16_3 : wr.cell? ⟨gb117, 3, none⟩ = some (.slice A0_3 l0_3.length c0_3) := (blk_cell BK117.out 3).trans rfl);(have hfz16_0 := blk_frozen BK117.out 0);(have hfz16_1 := blk_frozen BK117.out 1);(have hfz16_2 := blk_frozen BK117.out 2);(have hfz16_3 := blk_frozen BK117.out 3)); (go_wp2); (go_roundg k1)
        case measure => have := HK1.out; omega
        case rel => exact ⟨(wrap64 (x20_1 + 1)), (by first | rfl | (simp; done) | (simp [*]; done)), H', ⟨by have := HK1.out; omega⟩, ⟨by (with_reducible repeat first | apply Kd.R_alloc | apply Kd.R_drewN | apply Kd.R_drew); exact HO_6.out⟩, ⟨by (with_reducible repeat first | refine blk_drewN ?_ _ | refine blk_drew ?_ | refine blk_alloc ?_ _); exact BK117.out⟩, ⟨by repeat (first | (with_reducible first | exact HB.out | apply below_alloc | apply pw_below_drewN | apply below_drew1 | refine below_set ?_ GE117.out) | exact HB.out)⟩⟩
      ·(rw [if_neg c15] at H);(have c15b0 : ((wrap64 (x20_1 + 1)) == a0_2) = false := beq_eq_false_iff_ne.mpr c15);(have c15b1 : ((wrap64 (x20_1 + 1)) != a0_2) = true := bne_iff_ne.mpr c15);(obtain ⟨ji17, hji17⟩ : ∃ j_ : Int, (wrap64 (x20_1 + 1)) = j_ := ⟨_, rfl⟩);(replace H : (if 0 ≤ (ji17) then (if (ji17) < (t119.length : Int) then (if (rd t119 (ji17)) = 0 then (flow_Check.l0 k1 t119 a0_0 ji17 a0_0 a0_1 a0_2 l0_3) else (some 9)) else (none)) else (none)) = some r := by first | (rw [hji17] at H; exact H) | (simp only [hji17] at H ⊢; exact H));((try rw [hji17] at c13b0));((try rw [hji17] at c13b1));((try rw [hji17] at c15b0));((try rw [hji17] at c15b1));(have hji17w : (IntKind.i64.wrap (x20_1 + 1)) = ji17 := (i64_w _).trans hji17)
       by_cases c18 : 0 ≤ (ji17)
       ·(rw [if_pos c18] at H);(have c18b0 : decide (0 ≤ (ji17)) = true := decide_eq_true c18);(clear c18)
        by_cases c19 : (ji17) < (t119.length : Int)
        ·(rw [if_pos c19] at H);(have c19b0 : decide ((ji17) < (t119.length : Int)) = true := decide_eq_true c19);(clear c19)
         by_cases c20 : (rd t119 (ji17)) = 0
         ·(rw [if_pos c20] at H);(have c20b0 : ((rd t119 (ji17)) == 0) = true := beq_iff_eq.mpr c20);(have c20b1 : ((rd t119 (ji17)) != 0) = false := bne_eq_false_iff_eq.mpr c20);(clear c20)
          as_aux_lemma =>
           ((have H' := Aside0.mk H);(clear H);(have hcz21_0 : wr.cell? ⟨gb117, 0, none⟩ = some (.int .i64 a0_0) := (blk_cell BK117.out 0).trans rfl);(have hcz21_1 : wr.cell? ⟨gb117, 1, none⟩ = some (.int .i64 a0_1) := (blk_cell BK117.out 1).trans rfl);(have hcz21_2 : wr.cell? ⟨gb117, 2, none⟩ = some (.int .i64 a0_2) := (blk_cell BK117.out 2).trans rfl);(have hcz21_3 : wr.cell? ⟨gb117, 3, none⟩ = some (.slice A0_3 l0_3.length c0_3) := (blk_cell BK117.out 3).trans rfl);(have hfz21_0 := blk_frozen BK117.out 0);(have hfz21_1 := blk_frozen BK117.out 1);(have hfz21_2 := blk_frozen BK117.out 2);(have hfz21_3 := blk_frozen BK117.out 3);(obtain ⟨Ao22, co22, eo22⟩ := Kd.R_slice HO_6.out);(subst eo22);(have p122 : 0 ≤ ((ji17) : Int) := of_decide_eq_true (by first | (with_reducible assumption) | assumption));(have q122 : (ji17) < (t119.length : Int) := of_decide_eq_true (by first | (with_reducible assumption) | assumption));(obtain ⟨ad122, e122, hx122_0⟩ := Kd.at_int (Kd.R_reads' HO_6.out).2.2 (ji17) p122 q122);(cases e122);(replace p122 := eq_true p122);(replace q122 := eq_true q122)); (go_wp2); (go_roundg k1)
           case measure => have := HK1.out; omega
           case rel => exact ⟨(ji17), (by first | rfl | (simp; done) | (simp only [← hji17] <;> (first | rfl | simp)) | (simp [*]; done)), H', ⟨by have := HK1.out; omega⟩, ⟨by (with_reducible repeat first | apply Kd.R_alloc | apply Kd.R_drewN | apply Kd.R_drew); exact HO_6.out⟩, ⟨by (with_reducible repeat first | refine blk_drewN ?_ _ | refine blk_drew ?_ | refine blk_alloc ?_ _); exact BK117.out⟩, ⟨by repeat (first | (with_reducible first | exact HB.out | apply below_alloc | apply pw_below_drewN | apply below_drew1 | refine below_set ?_ GE117.out) | exact HB.out)⟩⟩
         ·(rw [if_neg c20] at H);(have c20b0 : ((rd t119 (ji17)) == 0) = false := beq_eq_false_iff_ne.mpr c20);(have c20b1 : ((rd t119 (ji17)) != 0) = true := bne_iff_ne.mpr c20)
          as_aux_lemma =>
           ((obtain rfl := Option.some.inj H);(have hcz23_0 : wr.cell? ⟨gb117, 0, none⟩ = some (.int .i64 a0_0) := (blk_cell BK117.out 0).trans rfl);(have hcz23_1 : wr.cell? ⟨gb117, 1, none⟩ = some (.int .i64 a0_1) := (blk_cell BK117.out 1).trans rfl);(have hcz23_2 : wr.cell? ⟨gb117, 2, none⟩ = some (.int .i64 a0_2) := (blk_cell BK117.out 2).trans rfl);(have hcz23_3 : wr.cell? ⟨gb117, 3, none⟩ = some (.slice A0_3 l0_3.length c0_3) := (blk_cell BK117.out 3).trans rfl);(have hfz23_0 := blk_frozen BK117.out 0);(have hfz23_1 := blk_frozen BK117.out 1);(have hfz23_2 := blk_frozen BK117.out 2);(have hfz23_3 := blk_frozen BK117.out 3);(obtain ⟨Ao24, co24, eo24⟩ := Kd.R_slice HO_6.out);(subst eo24);(have p122 : 0 ≤ ((ji17) : Int) := of_decide_eq_true (by first | (with_reducible assumption) | assumption));(have q122 : (ji17) < (t119.length : Int) := of_decide_eq_true (by first | (with_reducible assumption) | assumption));(obtain ⟨ad122, e122, hx122_0⟩ := Kd.at_int (Kd.R_reads' HO_6.out).2.2 (ji17) p122 q122);(cases e122);(replace p122 := eq_true p122);(replace q122 := eq_true q122)); (go_wp2); (go_ret); (exact ⟨by first | rfl | (simp [errW_none, errW_some] <;> rfl) | (simp only [← hji17]; first | rfl | (simp [errW_none, errW_some] <;> rfl)) | (simp [*, errW_none, errW_some] <;> rfl), by repeat (first | (with_reducible first | exact HB.out | apply below_alloc | apply pw_below_drewN | apply below_drew1 | refine below_set ?_ GE117.out) | exact HB.out)⟩)
        ·(rw [if_neg c19] at H);(exact absurd H (by simp))
       ·(rw [if_neg c18] at H);(exact absurd H (by simp))
    ·(rw [if_neg c12] at H);(have c12b0 : decide (x20_1 < a0_0) = false := decide_eq_false c12);(clear c12)
     as_aux_lemma =>
      (obtain rfl := Option.some.inj H); (go_wp2); (go_ret); (exact ⟨by first | rfl | (simp [errW_none, errW_some] <;> rfl) | (simp [*, errW_none, errW_some] <;> rfl), by repeat (first | (with_reducible first | exact HB.out | apply below_alloc | apply pw_below_drewN | apply below_drew1 | refine below_set ?_ GE117.out) | exact HB.out)⟩)
 ·rw [if_neg c4] at H
  (have c4b0 : (t118 == 0) = false := beq_eq_false_iff_ne.mpr c4); (have c4b1 : (t118 != 0) = true := bne_iff_ne.mpr c4)
  as_aux_lemma =>
   (obtain rfl := Option.some.inj H); (go_enter Try.func34, Try.ntmps34); (go_wp2_with (first | ((with_reducible refine gate_dst (N := 2) rfl ?_); refine box_event ?hg (N := 2) ?hd (cs := #[.int .i64 a0_0, .int .i64 a0_1, .int .i64 a0_2, .slice A0_3 l0_3.length c0_3]) (t := 26) ?hr ?_; (case hd => rfl); (case hg => rfl); (case hr => first | (go_simp; done) | (go_simp; rfl)); intro gb117 hg w25 hbox hb; have n0_ := Aside0.mk (below_step (by repeat (first | (with_reducible first | exact HB.out | apply below_alloc | apply pw_below_drewN | apply below_drew1) | exact HB.out)) hb); have n1_ := Aside0.mk (hbox); have n2_ := Aside0.mk ((by rw [hg]; exact (below_size (by repeat (first | (with_reducible first | exact HB.out | apply below_alloc | apply pw_below_drewN | apply below_drew1) | exact HB.out))) : w.heap.size ≤ gb117)); have n3_ := Aside0.mk ((by rw [hg]; exact (below_size (by repeat (first | (with_reducible first | exact HB.out | apply below_alloc | apply pw_below_drewN | apply below_drew1) | exact HB.out))) : w.heap.size ≤ gb117)); clear HB; have HB := n0_; have BK117 := n1_; have GW117 := n2_; have GE117 := n3_; clear n0_ n1_ n2_ n3_; clear hb hbox hg; have hcz26_0 : w25.cell? ⟨gb117, 0, none⟩ = some (.int .i64 a0_0) := (blk_cell BK117.out 0).trans rfl; have hcz26_1 : w25.cell? ⟨gb117, 1, none⟩ = some (.int .i64 a0_1) := (blk_cell BK117.out 1).trans rfl; have hcz26_2 : w25.cell? ⟨gb117, 2, none⟩ = some (.int .i64 a0_2) := (blk_cell BK117.out 2).trans rfl; have hcz26_3 : w25.cell? ⟨gb117, 3, none⟩ = some (.slice A0_3 l0_3.length c0_3) := (blk_cell BK117.out 3).trans rfl; have hfz26_0 := blk_frozen BK117.out 0; have hfz26_1 := blk_frozen BK117.out 1; have hfz26_2 := blk_frozen BK117.out 2; have hfz26_3 := blk_frozen BK117.out 3) | ((with_reducible refine gate_callee (f := 50) rfl ?_); refine goesL_ (some 11) rfl rfl Try.func50 (by kernel_rfl) rfl #[.agg #[.int .i64 a0_0, .int .i64 a0_1, .int .i64 a0_2, .slice A0_3 l0_3.length c0_3], .slice A1 l1.length c1] rfl (by (try simp only [List.map_toArray, List.map_cons, List.map_nil]); first | done | rfl | (simp only [List.length_drop, List.length_take]; rfl)) ?_; (with_reducible refine (flow_within.calls k a0_0 a0_1 a0_2 _ _ l0_3 _ _ l1 t118 _ ?side1 ?side2 ?side3 ?side4 A3.out).mono ?_); (case side1 => repeat (first | exact (Kd.C_below HR0_3.out HB.out) | (with_reducible refine Kd.C_alloc ?_ _) | (with_reducible refine Kd.C_drewN ?_ _) | (with_reducible refine Kd.C_drew ?_))); (case side2 => exact HC0_3.out); (case side3 => repeat (first | exact (Kd.C_below HR1.out HB.out) | (with_reducible refine Kd.C_alloc ?_ _) | (with_reducible refine Kd.C_drewN ?_ _) | (with_reducible refine Kd.C_drew ?_))); (case side4 => exact HC1.out); rintro e w27 ⟨rfl, hb⟩; refine ⟨_, rfl, ?_⟩; have n0_ := Aside0.mk (blk_below (g := gb117) (o := .cells #[.int .i64 a0_0, .int .i64 a0_1, .int .i64 a0_2, .slice A0_3 l0_3.length c0_3] 26 (0, 0)) (by (with_reducible repeat first | refine blk_drewN ?_ _ | refine blk_drew ?_ | refine blk_alloc ?_ _); exact BK117.out) hb); have n1_ := Aside0.mk (below_step (by repeat (first | (with_reducible first | exact HB.out | apply below_alloc | apply pw_below_drewN | apply below_drew1 | refine below_set ?_ GE117.out) | exact HB.out)) hb); clear BK117; clear HB; have BK117 := n0_; have HB := n1_; clear n0_ n1_; (try clear hb)))); (go_ret); (exact ⟨by first | rfl | (simp [errW_none, errW_some] <;> rfl) | (simp [*, errW_none, errW_some] <;> rfl), by repeat (first | (with_reducible first | exact HB.out | apply below_alloc | apply pw_below_drewN | apply below_drew1 | refine below_set ?_ GE117.out) | exact HB.out)⟩)
end Go.Proofs.Ytdiaedecnfbgdaa.PPlainBlocks
