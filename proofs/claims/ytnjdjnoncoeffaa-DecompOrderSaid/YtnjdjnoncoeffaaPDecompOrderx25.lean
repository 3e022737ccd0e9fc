/- For the law DecompOrder, for every input: printed by a program (wip/myprint), contracts by hand where it says MANUAL. -/
-- slim5
-- slim
import Derived.Test.YtnjdjnoncoeffaaPDecompOrderx0
import Derived.Test.YtnjdjnoncoeffaaPDecompOrderx3
import Derived.Test.YtnjdjnoncoeffaaPDecompOrderx24
namespace Go.Proofs.Ytnjdjnoncoeffaa.PDecompOrder
open Go.RowKit Go.Proofs.YtnjdjnoncoeffaaW.PrintWords Go.Proofs.YtnjdjnoncoeffaaW.PrintLast Go.Proofs.YtnjdjnoncoeffaaW.PrintMore
attribute [local go_sem] max2_int min2_int max_two min_two max_three min_three max_four min_four
set_option linter.unusedVariables false
set_option linter.unusedSimpArgs false
/-! ### decomp_Sum: function 15 -/
mutual
def decomp_Sum.l0 : Nat → List (S36) → List (S36) → Int → Int → Int → Int → Int → List (S30) → Option (List Int × Int)
 | 0, _, _, _, _, _, _, _, _ => none
 | k + 1, x1, x19, x20, x21, x203000, x203001, x203002, x203003 => if x21 < x20 then (if 0 ≤ x21 then (if x21 < (x19.length : Int) then ((decomp_right.f x203000 x203001 x203002 x203003 ((rd_T36 x19 x21).f0) ((rd_T36 x19 x21).f1) ((rd_T36 x19 x21).f2)).bind fun t206 => (if t206 = true then (decomp_Sum.l0 k x1 x19 x20 (wrap64 (x21 + 1)) x203000 x203001 x203002 x203003) else (some (([] : List Int), 1)))) else (none)) else (none)) else (if 0 ≤ (x203003.length : Int) then (if ((x203003.length : Int) : Int).toNat ≤ 35184372088832 then (decomp_Sum.l1 k (List.replicate ((x203003.length : Int) : Int).toNat 0) x1 (x1.length : Int) 0 x203000 x203001 x203002 x203003) else (none)) else (none))
def decomp_Sum.l1 : Nat → List Int → List (S36) → Int → Int → Int → Int → Int → List (S30) → Option (List Int × Int)
 | 0, _, _, _, _, _, _, _, _ => none
 | k + 1, x9, x34, x35, x36, x203000, x203001, x203002, x203003 => if x36 < x35 then (if 0 ≤ x36 then (if x36 < (x34.length : Int) then (decomp_Sum.l2 k x9 x34 x35 x36 ((rd_T36 x34 x36).f1) (((rd_T36 x34 x36).f1).length : Int) 0 x203000 x203001 x203002 x203003 ((rd_T36 x34 x36).f0) ((rd_T36 x34 x36).f1) ((rd_T36 x34 x36).f2)) else (none)) else (none)) else (some (x9, 0))
def decomp_Sum.l2 : Nat → List Int → List (S36) → Int → Int → List Int → Int → Int → Int → Int → Int → List (S30) → Int → List Int → Int → Option (List Int × Int)
 | 0, _, _, _, _, _, _, _, _, _, _, _, _, _, _ => none
 | k + 1, x9, x34, x35, x36, x41, x42, x43, x203000, x203001, x203002, x203003, x212000, x212001, x212002 => if x43 < x42 then (if 0 ≤ x43 then (if x43 < (x41.length : Int) then (if 0 ≤ (rd x41 x43) then (if (rd x41 x43) < (x203003.length : Int) then (if (rd x41 x43) < (x9.length : Int) then (if x212002 > (wrap64 (((rd_T30 x203003 (rd x41 x43)).f2) - (rd x9 (rd x41 x43)))) then (some (([] : List Int), 3)) else (decomp_Sum.l2 k (x9.set ((rd x41 x43) : Int).toNat (wrap64 ((rd x9 (rd x41 x43)) + x212002))) x34 x35 x36 x41 x42 (wrap64 (x43 + 1)) x203000 x203001 x203002 x203003 x212000 x212001 x212002)) else (none)) else (none)) else (none)) else (none)) else (none)) else (decomp_Sum.l1 k x9 x34 x35 (wrap64 (x36 + 1)) x203000 x203001 x203002 x203003)
end
def decomp_Sum.f (k : Nat) (a0_0 : Int) (a0_1 : Int) (a0_2 : Int) (l0_3 : List (S30)) (l1 : List (S36)) : Option (List Int × Int) := (net_Check.f a0_0 a0_1 a0_2 l0_3).bind fun t203 => (if t203 = 0 then (decomp_Sum.l0 k l1 l1 (l1.length : Int) 0 a0_0 a0_1 a0_2 l0_3) else (some (([] : List Int), t203)))
theorem decomp_Sum.mono_l : ∀ k, (∀ y0 y1 y2 y3 y4 y5 y6 y7, LeO (decomp_Sum.l0 k y0 y1 y2 y3 y4 y5 y6 y7) (decomp_Sum.l0 (k + 1) y0 y1 y2 y3 y4 y5 y6 y7)) ∧ (∀ y0 y1 y2 y3 y4 y5 y6 y7, LeO (decomp_Sum.l1 k y0 y1 y2 y3 y4 y5 y6 y7) (decomp_Sum.l1 (k + 1) y0 y1 y2 y3 y4 y5 y6 y7)) ∧ (∀ y0 y1 y2 y3 y4 y5 y6 y7 y8 y9 y10 y11 y12 y13, LeO (decomp_Sum.l2 k y0 y1 y2 y3 y4 y5 y6 y7 y8 y9 y10 y11 y12 y13) (decomp_Sum.l2 (k + 1) y0 y1 y2 y3 y4 y5 y6 y7 y8 y9 y10 y11 y12 y13))
 | 0 => ⟨fun _ _ _ _ _ _ _ _ r h => by simp [decomp_Sum.l0] at h, fun _ _ _ _ _ _ _ _ r h => by simp [decomp_Sum.l1] at h, fun _ _ _ _ _ _ _ _ _ _ _ _ _ _ r h => by simp [decomp_Sum.l2] at h⟩
 | k + 1 => by
  (obtain ⟨ih0, ih1, ih2⟩ := decomp_Sum.mono_l k); (refine ⟨?_, ?_, ?_⟩)
  ·intro y0 y1 y2 y3 y4 y5 y6 y7
   unfold decomp_Sum.l0
   repeat' first
   | (with_reducible exact ih0 _ _ _ _ _ _ _ _)
   | (with_reducible exact ih1 _ _ _ _ _ _ _ _)
   | (with_reducible exact ih2 _ _ _ _ _ _ _ _ _ _ _ _ _ _)
   | (with_reducible exact LeO.refl _)
   | (with_reducible exact LeO.none _)
   | (with_reducible refine LeO.ite ?_ ?_)
   | (with_reducible refine LeO.bind ?_ (fun _ => ?_))
   | exact ih0 _ _ _ _ _ _ _ _
   | exact ih1 _ _ _ _ _ _ _ _
   | exact ih2 _ _ _ _ _ _ _ _ _ _ _ _ _ _
   | exact LeO.none _
   | refine LeO.ite ?_ ?_
   | refine LeO.bind ?_ (fun _ => ?_)
  ·intro y0 y1 y2 y3 y4 y5 y6 y7
   unfold decomp_Sum.l1
   repeat' first
   | (with_reducible exact ih0 _ _ _ _ _ _ _ _)
   | (with_reducible exact ih1 _ _ _ _ _ _ _ _)
   | (with_reducible exact ih2 _ _ _ _ _ _ _ _ _ _ _ _ _ _)
   | (with_reducible exact LeO.refl _)
   | (with_reducible exact LeO.none _)
   | (with_reducible refine LeO.ite ?_ ?_)
   | (with_reducible refine LeO.bind ?_ (fun _ => ?_))
   | exact ih0 _ _ _ _ _ _ _ _
   | exact ih1 _ _ _ _ _ _ _ _
   | exact ih2 _ _ _ _ _ _ _ _ _ _ _ _ _ _
   | exact LeO.none _
   | refine LeO.ite ?_ ?_
   | refine LeO.bind ?_ (fun _ => ?_)
  ·intro y0 y1 y2 y3 y4 y5 y6 y7 y8 y9 y10 y11 y12 y13
   unfold decomp_Sum.l2
   repeat' first
   | (with_reducible exact ih0 _ _ _ _ _ _ _ _)
   | (with_reducible exact ih1 _ _ _ _ _ _ _ _)
   | (with_reducible exact ih2 _ _ _ _ _ _ _ _ _ _ _ _ _ _)
   | (with_reducible exact LeO.refl _)
   | (with_reducible exact LeO.none _)
   | (with_reducible refine LeO.ite ?_ ?_)
   | (with_reducible refine LeO.bind ?_ (fun _ => ?_))
   | exact ih0 _ _ _ _ _ _ _ _
   | exact ih1 _ _ _ _ _ _ _ _
   | exact ih2 _ _ _ _ _ _ _ _ _ _ _ _ _ _
   | exact LeO.none _
   | refine LeO.ite ?_ ?_
   | refine LeO.bind ?_ (fun _ => ?_)
theorem decomp_Sum.mono : ∀ a0 a1 a2 a3 a4 k, LeO (decomp_Sum.f k a0 a1 a2 a3 a4) (decomp_Sum.f (k + 1) a0 a1 a2 a3 a4) := by
 intro a0 a1 a2 a3 a4 k; (obtain ⟨ih0, ih1, ih2⟩ := decomp_Sum.mono_l k); (unfold decomp_Sum.f)
 repeat' first
   | (with_reducible exact ih0 _ _ _ _ _ _ _ _)
   | (with_reducible exact ih1 _ _ _ _ _ _ _ _)
   | (with_reducible exact ih2 _ _ _ _ _ _ _ _ _ _ _ _ _ _)
   | (with_reducible exact LeO.refl _)
   | (with_reducible exact LeO.none _)
   | (with_reducible refine LeO.ite ?_ ?_)
   | (with_reducible refine LeO.bind ?_ (fun _ => ?_))
   | exact ih0 _ _ _ _ _ _ _ _
   | exact ih1 _ _ _ _ _ _ _ _
   | exact ih2 _ _ _ _ _ _ _ _ _ _ _ _ _ _
   | exact LeO.none _
   | refine LeO.ite ?_ ?_
   | refine LeO.bind ?_ (fun _ => ?_)
def decomp_Sum.T17 : Bool × List (List Nat × List Nat) := (true, [([], []), ([0], [0]), ([], []), ([2], [2]), ([], []), ([3, 4], [3, 4]), ([5], [5]), ([6], [6]), ([], []), ([], []), ([8, 9], [8, 9]), ([10], [10]), ([7, 11], [7, 11]), ([1, 12], [1, 12])])
def decomp_Sum.B17 : List Nat := [0, 1, 0, 4, 0, 28, 60, 124, 0, 0, 768, 1792, 4092, 8191]
theorem decomp_Sum.tab17 : rtab .any (opsOf Try.f15 17) = decomp_Sum.T17 := by kernel_rfl
theorem decomp_Sum.bits17 : waitsOk decomp_Sum.T17.2 decomp_Sum.B17 = true := by kernel_rfl
def decomp_Sum.T19 : Bool × List (List Nat × List Nat) := (true, [([], []), ([], []), ([0, 1], [0, 1]), ([2], [2]), ([], []), ([4], [4]), ([3, 5], [3, 5]), ([0, 1, 0, 1, 2, 3, 4, 5, 6], [0, 1]), ([7, 6, 0, 1, 2, 3, 4, 5, 6], [6, 7])])
def decomp_Sum.B19 : List Nat := [0, 0, 3, 7, 0, 16, 63, 127, 255]
theorem decomp_Sum.tab19 : rtab .any (opsOf Try.f15 19) = decomp_Sum.T19 := by kernel_rfl
theorem decomp_Sum.bits19 : waitsOk decomp_Sum.T19.2 decomp_Sum.B19 = true := by kernel_rfl
set_option maxHeartbeats 8000000 in
set_option maxRecDepth 100000 in
theorem decomp_Sum.calls (k : Nat) (a0_0 : Int) (a0_1 : Int) (a0_2 : Int) (A0_3 : Option Addr) (c0_3 : Nat) (l0_3 : List (S30)) (A1 : Option Addr) (c1 : Nat) (l1 : List (S36)) (r1 : List Int) (r2 : Int) (w : World) (hr0_3 : Kd.C k30 w A0_3 l0_3.length l0_3) (hc0_3 : l0_3.length ≤ c0_3) (hr1 : Kd.C k36 w A1 l1.length l1) (hc1 : l1.length ≤ c1) (h : decomp_Sum.f k a0_0 a0_1 a0_2 l0_3 l1 = some (r1, r2)) :
  Calls Try.prog 15 #[.agg #[.int .i64 a0_0, .int .i64 a0_1, .int .i64 a0_2, .slice A0_3 l0_3.length c0_3], .slice A1 l1.length c1] w fun e w' => ∃ v0_ : Value, e = .returned (.tuple #[v0_, .int .i64 r2]) ∧ Kd.R (Kd.int .i64) 2 w' w.heap.size (fun _ => True) v0_ r1 ∧ Below w.heap.size w w' := by
 (have hu26 := Try.underlying26); (have hu36 := Try.underlying36); (have HR0_3 := Aside0.mk hr0_3); (have HC0_3 := Aside0.mk hc0_3); clear hr0_3 hc0_3; (have HR1 := Aside0.mk hr1); (have HC1 := Aside0.mk hc1); clear hr1 hc1; (have HB := Aside0.mk (Below.refl w.heap.size w)); (have H : ((net_Check.f a0_0 a0_1 a0_2 l0_3).bind fun t203 => (if t203 = 0 then (decomp_Sum.l0 k l1 l1 (l1.length : Int) 0 a0_0 a0_1 a0_2 l0_3) else (some (([] : List Int), t203)))) = some (r1, r2) := h); clear h; (replace H := Option.bind_eq_some_iff.mp H); (obtain ⟨t203, A30, H⟩ := H); (replace H : (if t203 = 0 then (decomp_Sum.l0 k l1 l1 (l1.length : Int) 0 a0_0 a0_1 a0_2 l0_3) else (some (([] : List Int), t203))) = some (r1, r2) := H); (have A3 := Aside0.mk A30); clear A30; (by_cases c4 : t203 = 0)
 ·rw [if_pos c4] at H
  (have c4b0 : (t203 == 0) = true := beq_iff_eq.mpr c4); (have c4b1 : (t203 != 0) = false := bne_eq_false_iff_eq.mpr c4); clear c4; (have H' := Aside0.mk H); clear H; (go_enter Try.func15, Try.ntmps15); (go_wp2_with (first | ((with_reducible refine gate_dst (N := 2) rfl ?_); refine box_event ?hg (N := 2) ?hd (cs := #[.int .i64 a0_0, .int .i64 a0_1, .int .i64 a0_2, .slice A0_3 l0_3.length c0_3]) (t := 26) ?hr ?_; (case hd => rfl); (case hg => rfl); (case hr => first | (go_simp; done) | (go_simp; rfl)); intro gb202 hg w5 hbox hb; have n0_ := Aside0.mk (below_step (by repeat (first | (with_reducible first | exact HB.out | apply below_alloc | apply pw_below_drewN | apply below_drew1) | exact HB.out)) hb); have n1_ := Aside0.mk (hbox); have n2_ := Aside0.mk ((by rw [hg]; exact (below_size (by repeat (first | (with_reducible first | exact HB.out | apply below_alloc | apply pw_below_drewN | apply below_drew1) | exact HB.out))) : w.heap.size ≤ gb202)); have n3_ := Aside0.mk ((by rw [hg]; exact (below_size (by repeat (first | (with_reducible first | exact HB.out | apply below_alloc | apply pw_below_drewN | apply below_drew1) | exact HB.out))) : w.heap.size ≤ gb202)); clear HB; have HB := n0_; have BK202 := n1_; have GW202 := n2_; have GE202 := n3_; clear n0_ n1_ n2_ n3_; clear hb hbox hg; have hcz6_0 : w5.cell? ⟨gb202, 0, none⟩ = some (.int .i64 a0_0) := (blk_cell BK202.out 0).trans rfl; have hcz6_1 : w5.cell? ⟨gb202, 1, none⟩ = some (.int .i64 a0_1) := (blk_cell BK202.out 1).trans rfl; have hcz6_2 : w5.cell? ⟨gb202, 2, none⟩ = some (.int .i64 a0_2) := (blk_cell BK202.out 2).trans rfl; have hcz6_3 : w5.cell? ⟨gb202, 3, none⟩ = some (.slice A0_3 l0_3.length c0_3) := (blk_cell BK202.out 3).trans rfl; have hfz6_0 := blk_frozen BK202.out 0; have hfz6_1 := blk_frozen BK202.out 1; have hfz6_2 := blk_frozen BK202.out 2; have hfz6_3 := blk_frozen BK202.out 3) | ((with_reducible refine gate_callee (f := 25) rfl ?_); refine goesL_ (some 15) rfl rfl Try.func25 (by kernel_rfl) rfl #[.agg #[.int .i64 a0_0, .int .i64 a0_1, .int .i64 a0_2, .slice A0_3 l0_3.length c0_3]] rfl (by (try simp only [List.map_toArray, List.map_cons, List.map_nil]); first | done | rfl | (simp only [List.length_drop, List.length_take]; rfl)) ?_; (with_reducible refine (net_Check.calls a0_0 a0_1 a0_2 _ _ l0_3 t203 _ ?side1 ?side2 A3.out).mono ?_); (case side1 => repeat (first | exact (Kd.C_below HR0_3.out HB.out) | (with_reducible refine Kd.C_alloc ?_ _) | (with_reducible refine Kd.C_drewN ?_ _) | (with_reducible refine Kd.C_drew ?_))); (case side2 => exact HC0_3.out); rintro e w7 ⟨rfl, hb⟩; refine ⟨_, rfl, ?_⟩; have n0_ := Aside0.mk (blk_below (g := gb202) (o := .cells #[.int .i64 a0_0, .int .i64 a0_1, .int .i64 a0_2, .slice A0_3 l0_3.length c0_3] 26 (0, 0)) (by (with_reducible repeat first | refine blk_drewN ?_ _ | refine blk_drew ?_ | refine blk_alloc ?_ _); exact BK202.out) hb); have n1_ := Aside0.mk (below_step (by repeat (first | (with_reducible first | exact HB.out | apply below_alloc | apply pw_below_drewN | apply below_drew1 | refine below_set ?_ GE202.out) | exact HB.out)) hb); clear BK202; clear HB; have BK202 := n0_; have HB := n1_; clear n0_ n1_; (try clear hb); (try clear hb2); (try clear hk); (try clear hi)))); (go_loopg [21] k (fun kq v21 w' => ∃ (x21_1 : Int), v21 = .int .i64 x21_1 ∧ Aside0 (decomp_Sum.l0 kq l1 l1 (l1.length : Int) x21_1 a0_0 a0_1 a0_2 l0_3 = some (r1, r2)) ∧ Aside0 (kq ≤ k) ∧ Aside0 (w'.heap[gb202]? = some (.cells #[.int .i64 a0_0, .int .i64 a0_1, .int .i64 a0_2, (.slice A0_3 l0_3.length c0_3)] 26 (0, 0))) ∧ Aside0 (Below w.heap.size w w')))
  case atStart => exact ⟨(0), (by first | rfl | (simp; done) | (simp [*]; done)), H', ⟨Nat.le_refl _⟩, ⟨by (with_reducible repeat first | refine blk_drewN ?_ _ | refine blk_drew ?_ | refine blk_alloc ?_ _); exact BK202.out⟩, ⟨by repeat (first | (with_reducible first | exact HB.out | apply below_alloc | apply pw_below_drewN | apply below_drew1 | refine below_set ?_ GE202.out) | exact HB.out)⟩⟩
  case round =>
   clear H'
   try clear c1
   try clear c2
   try clear p2
   try clear c4
   try clear c4b0
   try clear c4b1
   try clear hcz6_0
   try clear hcz6_1
   try clear hcz6_2
   try clear hcz6_3
   try clear hfz6_0
   try clear hfz6_1
   try clear hfz6_2
   try clear hfz6_3
   obtain ⟨x21_1, rfl, HA, HK1, BK202, HB⟩ := hrel
   cases gk with
   | zero => exact absurd HA.out (by simp [decomp_Sum.l0])
   | succ k1 =>
    ((have H := HA.out);(clear HA);(simp only [decomp_Sum.l0] at H)); (by_cases c8 : x21_1 < (l1.length : Int))
    ·(rw [if_pos c8] at H);(have c8b0 : decide (x21_1 < (l1.length : Int)) = true := decide_eq_true c8);(clear c8)
     by_cases c9 : 0 ≤ x21_1
     ·(rw [if_pos c9] at H);(have c9b0 : decide (0 ≤ x21_1) = true := decide_eq_true c9);(clear c9)
      by_cases c10 : x21_1 < (l1.length : Int)
      ·(rw [if_pos c10] at H);(have c10b0 : decide (x21_1 < (l1.length : Int)) = true := decide_eq_true c10);(clear c10);(replace H := Option.bind_eq_some_iff.mp H);(obtain ⟨t206, A110, H⟩ := H);(replace H : (if t206 = true then (decomp_Sum.l0 k1 l1 l1 (l1.length : Int) (wrap64 (x21_1 + 1)) a0_0 a0_1 a0_2 l0_3) else (some (([] : List Int), 1))) = some (r1, r2) := H);(have A11 := Aside0.mk A110);(clear A110)
       by_cases c12 : t206 = true
       ·(subst c12);(have H1 : (decomp_Sum.l0 k1 l1 l1 (l1.length : Int) (wrap64 (x21_1 + 1)) a0_0 a0_1 a0_2 l0_3) = some (r1, r2) := by rw [if_pos rfl] at H; exact H);(clear H);(have H := H1);(clear H1)
        as_aux_lemma =>
         ((have H' := Aside0.mk H);(clear H);(have p204 : 0 ≤ (x21_1 : Int) := of_decide_eq_true (by first | (with_reducible assumption) | assumption));(have q204 : x21_1 < (l1.length : Int) := of_decide_eq_true (by first | (with_reducible assumption) | assumption));(obtain ⟨ad204, A204_1, c204_1, e204, hx204_0, hx204_1, hx204_2, hl204_1, hi204_1⟩ := at_T36 HR1.out x21_1 p204 q204);(cases e204);(replace hx204_0 := (HB.out.cell (World.block_lt_of_cell? w _ hx204_0)).trans hx204_0);(replace hx204_1 := (HB.out.cell (World.block_lt_of_cell? w _ hx204_1)).trans hx204_1);(replace hx204_2 := (HB.out.cell (World.block_lt_of_cell? w _ hx204_2)).trans hx204_2);(have HR204_1 := Aside0.mk hi204_1);(have HC204_1 := Aside0.mk hl204_1);(clear hi204_1 hl204_1);(replace p204 := eq_true p204);(replace q204 := eq_true q204)); (go_wp2_with (first | ((with_reducible refine gate_dst (N := 8) rfl ?_); refine box_event ?hg (N := 8) ?hd (cs := #[.int .u8 0, .slice none 0 0, .int .i64 0]) (t := 36) ?hr ?_; (case hd => rfl); (case hg => rfl); (case hr => first | (go_simp; done) | (go_simp; rfl)); intro gb205 hg w13 hbox hb; have n0_ := Aside0.mk (blk_below (g := gb202) (o := .cells #[.int .i64 a0_0, .int .i64 a0_1, .int .i64 a0_2, .slice A0_3 l0_3.length c0_3] 26 (0, 0)) (by (with_reducible repeat first | refine blk_drewN ?_ _ | refine blk_drew ?_ | refine blk_alloc ?_ _); exact BK202.out) hb); have n1_ := Aside0.mk (below_step (by repeat (first | (with_reducible first | exact HB.out | apply below_alloc | apply pw_below_drewN | apply below_drew1 | refine below_set ?_ GE202.out) | exact HB.out)) hb); have n2_ := Aside0.mk (hbox); have n3_ := Aside0.mk ((by rw [hg]; exact (below_size (by repeat (first | (with_reducible first | exact HB.out | apply below_alloc | apply pw_below_drewN | apply below_drew1 | refine below_set ?_ GE202.out) | exact HB.out))) : w.heap.size ≤ gb205)); have n4_ := Aside0.mk ((by rw [hg]; exact (below_size (by repeat (first | (with_reducible first | exact HB.out | apply below_alloc | apply pw_below_drewN | apply below_drew1 | refine below_set ?_ GE202.out) | exact HB.out))) : w.heap.size ≤ gb205)); have n5_ := Aside0.mk ((by rw [hg]; exact Nat.ne_of_lt (blk_lt (g := gb202) (o := .cells #[.int .i64 a0_0, .int .i64 a0_1, .int .i64 a0_2, .slice A0_3 l0_3.length c0_3] 26 (0, 0)) (by (with_reducible repeat first | refine blk_drewN ?_ _ | refine blk_drew ?_ | refine blk_alloc ?_ _); exact BK202.out)) : gb202 ≠ gb205)); have n6_ := Aside0.mk ((by rw [hg]; exact Nat.ne_of_gt (blk_lt (g := gb202) (o := .cells #[.int .i64 a0_0, .int .i64 a0_1, .int .i64 a0_2, .slice A0_3 l0_3.length c0_3] 26 (0, 0)) (by (with_reducible repeat first | refine blk_drewN ?_ _ | refine blk_drew ?_ | refine blk_alloc ?_ _); exact BK202.out)) : gb205 ≠ gb202)); clear BK202; clear HB; have BK202 := n0_; have HB := n1_; have BK205 := n2_; have GW205 := n3_; have GE205 := n4_; have NB202_205 := n5_; have NB205_202 := n6_; clear n0_ n1_ n2_ n3_ n4_ n5_ n6_; clear hb hbox hg; have hnb14 := NB205_202.out; have hnc14 := NB202_205.out; have hcz15_0 : w13.cell? ⟨gb205, 0, none⟩ = some (.int .u8 0) := (blk_cell BK205.out 0).trans rfl; have hcz15_1 : w13.cell? ⟨gb205, 1, none⟩ = some (.slice none 0 0) := (blk_cell BK205.out 1).trans rfl; have hcz15_2 : w13.cell? ⟨gb205, 2, none⟩ = some (.int .i64 0) := (blk_cell BK205.out 2).trans rfl; have hfz15_0 := blk_frozen BK205.out 0; have hfz15_1 := blk_frozen BK205.out 1; have hfz15_2 := blk_frozen BK205.out 2; have hcz16_0 : w13.cell? ⟨gb202, 0, none⟩ = some (.int .i64 a0_0) := (blk_cell BK202.out 0).trans rfl; have hcz16_1 : w13.cell? ⟨gb202, 1, none⟩ = some (.int .i64 a0_1) := (blk_cell BK202.out 1).trans rfl; have hcz16_2 : w13.cell? ⟨gb202, 2, none⟩ = some (.int .i64 a0_2) := (blk_cell BK202.out 2).trans rfl; have hcz16_3 : w13.cell? ⟨gb202, 3, none⟩ = some (.slice A0_3 l0_3.length c0_3) := (blk_cell BK202.out 3).trans rfl; have hfz16_0 := blk_frozen BK202.out 0; have hfz16_1 := blk_frozen BK202.out 1; have hfz16_2 := blk_frozen BK202.out 2; have hfz16_3 := blk_frozen BK202.out 3) | ((with_reducible refine gate_callee (f := 26) rfl ?_); refine goesL_ (some 27) rfl rfl Try.func26 (by kernel_rfl) rfl #[.agg #[.int .i64 a0_0, .int .i64 a0_1, .int .i64 a0_2, .slice A0_3 l0_3.length c0_3], .agg #[.int .u8 ((rd_T36 l1 x21_1).f0), .slice A204_1 ((rd_T36 l1 x21_1).f1).length c204_1, .int .i64 ((rd_T36 l1 x21_1).f2)]] rfl (by (try simp only [List.map_toArray, List.map_cons, List.map_nil]); first | done | rfl | (simp only [List.length_drop, List.length_take]; rfl)) ?_; (with_reducible refine (decomp_right.calls a0_0 a0_1 a0_2 _ _ l0_3 ((rd_T36 l1 x21_1).f0) _ _ ((rd_T36 l1 x21_1).f1) ((rd_T36 l1 x21_1).f2) true _ ?side1 ?side2 ?side3 ?side4 A11.out).mono ?_); (case side1 => exact Kd.C_below HR0_3.out (by repeat (first | (with_reducible first | exact HB.out | apply below_alloc | apply pw_below_drewN | apply below_drew1 | refine below_set ?_ GE202.out | refine below_set ?_ GE205.out) | exact HB.out))); (case side2 => exact HC0_3.out); (case side3 => exact Kd.C_below HR204_1.out (by repeat (first | (with_reducible first | exact HB.out | apply below_alloc | apply pw_below_drewN | apply below_drew1 | refine below_set ?_ GE202.out | refine below_set ?_ GE205.out) | exact HB.out))); (case side4 => exact HC204_1.out); rintro e w17 ⟨rfl, hb⟩; refine ⟨_, rfl, ?_⟩; have n0_ := Aside0.mk (blk_below (g := gb202) (o := .cells #[.int .i64 a0_0, .int .i64 a0_1, .int .i64 a0_2, .slice A0_3 l0_3.length c0_3] 26 (0, 0)) (by (with_reducible repeat first | refine blk_drewN ?_ _ | refine blk_drew ?_ | refine blk_alloc ?_ _); refine blk_far ?_ NB202_205.out _; (with_reducible repeat first | refine blk_drewN ?_ _ | refine blk_drew ?_ | refine blk_alloc ?_ _); refine blk_far ?_ NB202_205.out _; (with_reducible repeat first | refine blk_drewN ?_ _ | refine blk_drew ?_ | refine blk_alloc ?_ _); refine blk_far ?_ NB202_205.out _; (with_reducible repeat first | refine blk_drewN ?_ _ | refine blk_drew ?_ | refine blk_alloc ?_ _); exact BK202.out) hb); have n1_ := Aside0.mk (blk_below (g := gb205) (o := .cells #[.int .u8 ((rd_T36 l1 x21_1).f0), .slice A204_1 ((rd_T36 l1 x21_1).f1).length c204_1, .int .i64 ((rd_T36 l1 x21_1).f2)] 36 (0, 0)) (by (with_reducible repeat first | refine blk_drewN ?_ _ | refine blk_drew ?_ | refine blk_alloc ?_ _); refine blk_put (cs := #[.int .u8 ((rd_T36 l1 x21_1).f0), .slice A204_1 ((rd_T36 l1 x21_1).f1).length c204_1, .int .i64 0]) ?_ 2 _ rfl; (with_reducible repeat first | refine blk_drewN ?_ _ | refine blk_drew ?_ | refine blk_alloc ?_ _); refine blk_put (cs := #[.int .u8 ((rd_T36 l1 x21_1).f0), .slice none 0 0, .int .i64 0]) ?_ 1 _ rfl; (with_reducible repeat first | refine blk_drewN ?_ _ | refine blk_drew ?_ | refine blk_alloc ?_ _); refine blk_put (cs := #[.int .u8 0, .slice none 0 0, .int .i64 0]) ?_ 0 _ rfl; (with_reducible repeat first | refine blk_drewN ?_ _ | refine blk_drew ?_ | refine blk_alloc ?_ _); exact BK205.out) hb); have n2_ := Aside0.mk (below_step (by repeat (first | (with_reducible first | exact HB.out | apply below_alloc | apply pw_below_drewN | apply below_drew1 | refine below_set ?_ GE202.out | refine below_set ?_ GE205.out) | exact HB.out)) hb); clear BK202; clear BK205; clear HB; have BK202 := n0_; have BK205 := n1_; have HB := n2_; clear n0_ n1_ n2_; (try clear hb); (try clear hb2); (try clear hk); (try clear hi))))
         go_roundg k1
         case measure => have := HK1.out; omega
         case rel => exact ⟨(wrap64 (x21_1 + 1)), (by first | rfl | (simp; done) | (simp [*]; done)), H', ⟨by have := HK1.out; omega⟩, ⟨by (with_reducible repeat first | refine blk_drewN ?_ _ | refine blk_drew ?_ | refine blk_alloc ?_ _); exact BK202.out⟩, ⟨by repeat (first | (with_reducible first | exact HB.out | apply below_alloc | apply pw_below_drewN | apply below_drew1 | refine below_set ?_ GE202.out | refine below_set ?_ GE205.out) | exact HB.out)⟩⟩
       ·(replace c12 := Bool.eq_false_iff.mpr c12);(subst c12);(have H1 : (some (([] : List Int), 1)) = some (r1, r2) := by rw [if_neg (show ¬ (false = true) by decide)] at H; exact H);(clear H);(have H := H1);(clear H1)
        as_aux_lemma =>
         ((simp only [Option.some.injEq, Prod.mk.injEq] at H);(obtain ⟨rfl, rfl⟩ := H);(have p204 : 0 ≤ (x21_1 : Int) := of_decide_eq_true (by first | (with_reducible assumption) | assumption));(have q204 : x21_1 < (l1.length : Int) := of_decide_eq_true (by first | (with_reducible assumption) | assumption));(obtain ⟨ad204, A204_1, c204_1, e204, hx204_0, hx204_1, hx204_2, hl204_1, hi204_1⟩ := at_T36 HR1.out x21_1 p204 q204);(cases e204);(replace hx204_0 := (HB.out.cell (World.block_lt_of_cell? w _ hx204_0)).trans hx204_0);(replace hx204_1 := (HB.out.cell (World.block_lt_of_cell? w _ hx204_1)).trans hx204_1);(replace hx204_2 := (HB.out.cell (World.block_lt_of_cell? w _ hx204_2)).trans hx204_2);(have HR204_1 := Aside0.mk hi204_1);(have HC204_1 := Aside0.mk hl204_1);(clear hi204_1 hl204_1);(replace p204 := eq_true p204);(replace q204 := eq_true q204)); (go_wp2_with (first | ((with_reducible refine gate_dst (N := 8) rfl ?_); refine box_event ?hg (N := 8) ?hd (cs := #[.int .u8 0, .slice none 0 0, .int .i64 0]) (t := 36) ?hr ?_; (case hd => rfl); (case hg => rfl); (case hr => first | (go_simp; done) | (go_simp; rfl)); intro gb205 hg w18 hbox hb; have n0_ := Aside0.mk (blk_below (g := gb202) (o := .cells #[.int .i64 a0_0, .int .i64 a0_1, .int .i64 a0_2, .slice A0_3 l0_3.length c0_3] 26 (0, 0)) (by (with_reducible repeat first | refine blk_drewN ?_ _ | refine blk_drew ?_ | refine blk_alloc ?_ _); exact BK202.out) hb); have n1_ := Aside0.mk (below_step (by repeat (first | (with_reducible first | exact HB.out | apply below_alloc | apply pw_below_drewN | apply below_drew1 | refine below_set ?_ GE202.out) | exact HB.out)) hb); have n2_ := Aside0.mk (hbox); have n3_ := Aside0.mk ((by rw [hg]; exact (below_size (by repeat (first | (with_reducible first | exact HB.out | apply below_alloc | apply pw_below_drewN | apply below_drew1 | refine below_set ?_ GE202.out) | exact HB.out))) : w.heap.size ≤ gb205)); have n4_ := Aside0.mk ((by rw [hg]; exact (below_size (by repeat (first | (with_reducible first | exact HB.out | apply below_alloc | apply pw_below_drewN | apply below_drew1 | refine below_set ?_ GE202.out) | exact HB.out))) : w.heap.size ≤ gb205)); have n5_ := Aside0.mk ((by rw [hg]; exact Nat.ne_of_lt (blk_lt (g := gb202) (o := .cells #[.int .i64 a0_0, .int .i64 a0_1, .int .i64 a0_2, .slice A0_3 l0_3.length c0_3] 26 (0, 0)) (by (with_reducible repeat first | refine blk_drewN ?_ _ | refine blk_drew ?_ | refine blk_alloc ?_ _); exact BK202.out)) : gb202 ≠ gb205)); have n6_ := Aside0.mk ((by rw [hg]; exact Nat.ne_of_gt (blk_lt (g := gb202) (o := .cells #[.int .i64 a0_0, .int .i64 a0_1, .int .i64 a0_2, .slice A0_3 l0_3.length c0_3] 26 (0, 0)) (by (with_reducible repeat first | refine blk_drewN ?_ _ | refine blk_drew ?_ | refine blk_alloc ?_ _); exact BK202.out)) : gb205 ≠ gb202)); clear BK202; clear HB; have BK202 := n0_; have HB := n1_; have BK205 := n2_; have GW205 := n3_; have GE205 := n4_; have NB202_205 := n5_; have NB205_202 := n6_; clear n0_ n1_ n2_ n3_ n4_ n5_ n6_; clear hb hbox hg; have hnb19 := NB205_202.out; have hnc19 := NB202_205.out; have hcz20_0 : w18.cell? ⟨gb205, 0, none⟩ = some (.int .u8 0) := (blk_cell BK205.out 0).trans rfl; have hcz20_1 : w18.cell? ⟨gb205, 1, none⟩ = some (.slice none 0 0) := (blk_cell BK205.out 1).trans rfl; have hcz20_2 : w18.cell? ⟨gb205, 2, none⟩ = some (.int .i64 0) := (blk_cell BK205.out 2).trans rfl; have hfz20_0 := blk_frozen BK205.out 0; have hfz20_1 := blk_frozen BK205.out 1; have hfz20_2 := blk_frozen BK205.out 2; have hcz21_0 : w18.cell? ⟨gb202, 0, none⟩ = some (.int .i64 a0_0) := (blk_cell BK202.out 0).trans rfl; have hcz21_1 : w18.cell? ⟨gb202, 1, none⟩ = some (.int .i64 a0_1) := (blk_cell BK202.out 1).trans rfl; have hcz21_2 : w18.cell? ⟨gb202, 2, none⟩ = some (.int .i64 a0_2) := (blk_cell BK202.out 2).trans rfl; have hcz21_3 : w18.cell? ⟨gb202, 3, none⟩ = some (.slice A0_3 l0_3.length c0_3) := (blk_cell BK202.out 3).trans rfl; have hfz21_0 := blk_frozen BK202.out 0; have hfz21_1 := blk_frozen BK202.out 1; have hfz21_2 := blk_frozen BK202.out 2; have hfz21_3 := blk_frozen BK202.out 3) | ((with_reducible refine gate_callee (f := 26) rfl ?_); refine goesL_ (some 27) rfl rfl Try.func26 (by kernel_rfl) rfl #[.agg #[.int .i64 a0_0, .int .i64 a0_1, .int .i64 a0_2, .slice A0_3 l0_3.length c0_3], .agg #[.int .u8 ((rd_T36 l1 x21_1).f0), .slice A204_1 ((rd_T36 l1 x21_1).f1).length c204_1, .int .i64 ((rd_T36 l1 x21_1).f2)]] rfl (by (try simp only [List.map_toArray, List.map_cons, List.map_nil]); first | done | rfl | (simp only [List.length_drop, List.length_take]; rfl)) ?_; (with_reducible refine (decomp_right.calls a0_0 a0_1 a0_2 _ _ l0_3 ((rd_T36 l1 x21_1).f0) _ _ ((rd_T36 l1 x21_1).f1) ((rd_T36 l1 x21_1).f2) false _ ?side1 ?side2 ?side3 ?side4 A11.out).mono ?_); (case side1 => exact Kd.C_below HR0_3.out (by repeat (first | (with_reducible first | exact HB.out | apply below_alloc | apply pw_below_drewN | apply below_drew1 | refine below_set ?_ GE202.out | refine below_set ?_ GE205.out) | exact HB.out))); (case side2 => exact HC0_3.out); (case side3 => exact Kd.C_below HR204_1.out (by repeat (first | (with_reducible first | exact HB.out | apply below_alloc | apply pw_below_drewN | apply below_drew1 | refine below_set ?_ GE202.out | refine below_set ?_ GE205.out) | exact HB.out))); (case side4 => exact HC204_1.out); rintro e w22 ⟨rfl, hb⟩; refine ⟨_, rfl, ?_⟩; have n0_ := Aside0.mk (blk_below (g := gb202) (o := .cells #[.int .i64 a0_0, .int .i64 a0_1, .int .i64 a0_2, .slice A0_3 l0_3.length c0_3] 26 (0, 0)) (by (with_reducible repeat first | refine blk_drewN ?_ _ | refine blk_drew ?_ | refine blk_alloc ?_ _); refine blk_far ?_ NB202_205.out _; (with_reducible repeat first | refine blk_drewN ?_ _ | refine blk_drew ?_ | refine blk_alloc ?_ _); refine blk_far ?_ NB202_205.out _; (with_reducible repeat first | refine blk_drewN ?_ _ | refine blk_drew ?_ | refine blk_alloc ?_ _); refine blk_far ?_ NB202_205.out _; (with_reducible repeat first | refine blk_drewN ?_ _ | refine blk_drew ?_ | refine blk_alloc ?_ _); exact BK202.out) hb); have n1_ := Aside0.mk (blk_below (g := gb205) (o := .cells #[.int .u8 ((rd_T36 l1 x21_1).f0), .slice A204_1 ((rd_T36 l1 x21_1).f1).length c204_1, .int .i64 ((rd_T36 l1 x21_1).f2)] 36 (0, 0)) (by (with_reducible repeat first | refine blk_drewN ?_ _ | refine blk_drew ?_ | refine blk_alloc ?_ _); refine blk_put (cs := #[.int .u8 ((rd_T36 l1 x21_1).f0), .slice A204_1 ((rd_T36 l1 x21_1).f1).length c204_1, .int .i64 0]) ?_ 2 _ rfl; (with_reducible repeat first | refine blk_drewN ?_ _ | refine blk_drew ?_ | refine blk_alloc ?_ _); refine blk_put (cs := #[.int .u8 ((rd_T36 l1 x21_1).f0), .slice none 0 0, .int .i64 0]) ?_ 1 _ rfl; (with_reducible repeat first | refine blk_drewN ?_ _ | refine blk_drew ?_ | refine blk_alloc ?_ _); refine blk_put (cs := #[.int .u8 0, .slice none 0 0, .int .i64 0]) ?_ 0 _ rfl; (with_reducible repeat first | refine blk_drewN ?_ _ | refine blk_drew ?_ | refine blk_alloc ?_ _); exact BK205.out) hb); have n2_ := Aside0.mk (below_step (by repeat (first | (with_reducible first | exact HB.out | apply below_alloc | apply pw_below_drewN | apply below_drew1 | refine below_set ?_ GE202.out | refine below_set ?_ GE205.out) | exact HB.out)) hb); clear BK202; clear BK205; clear HB; have BK202 := n0_; have BK205 := n1_; have HB := n2_; clear n0_ n1_ n2_; (try clear hb); (try clear hb2); (try clear hk); (try clear hi))))
         (go_ret2); (exact ⟨_, by first | rfl | (simp [errW_none, errW_some] <;> rfl) | (simp [*, errW_none, errW_some] <;> rfl), by first | exact Kd.R_nil _ _ _ _ _ | exact Kd.N_nil _ _ _ _ _ | exact Kd.V_nil _ _ _ _ _ | exact Kd.Q_nil _ _ _ _ _ | exact Kd.S_nil _ _ _ _ _, by repeat (first | (with_reducible first | exact HB.out | apply below_alloc | apply pw_below_drewN | apply below_drew1 | refine below_set ?_ GE202.out | refine below_set ?_ GE205.out) | exact HB.out)⟩)
      ·(rw [if_neg c10] at H);(exact absurd H (by simp))
     ·(rw [if_neg c9] at H);(exact absurd H (by simp))
    ·(rw [if_neg c8] at H);(have c8b0 : decide (x21_1 < (l1.length : Int)) = false := decide_eq_false c8);(clear c8)
     by_cases c23 : 0 ≤ (l0_3.length : Int)
     ·(rw [if_pos c23] at H);(have c23b0 := eq_true c23);(have c23b1 : decide (0 ≤ (l0_3.length : Int)) = true := decide_eq_true c23);(clear c23)
      by_cases c24 : ((l0_3.length : Int) : Int).toNat ≤ 35184372088832
      ·(rw [if_pos c24] at H);(have c24b0 := eq_true c24);(have c24b1 : decide (((l0_3.length : Int) : Int).toNat ≤ 35184372088832) = true := decide_eq_true c24);(clear c24);(obtain ⟨y207, hy207⟩ : ∃ y_ : List Int, y_ = (List.replicate ((l0_3.length : Int) : Int).toNat 0) := ⟨_, rfl⟩);(replace H : (decomp_Sum.l1 k1 y207 l1 (l1.length : Int) 0 a0_0 a0_1 a0_2 l0_3) = some (r1, r2) := by first | (rw [hy207]; with_reducible exact H) | (have H2_ := (Option.bind_some _ _).symm.trans H; rw [hy207]; with_reducible exact H2_) | (have H2_ := (Option.bind_some _ _).symm.trans H; with_reducible exact H2_) | with_reducible exact H | (rw [hy207]; exact H) | exact H);(have Ny207 := Aside0.mk hy207);(clear hy207);(have H' := Aside0.mk H);(clear H);(have hcz25_0 : wr.cell? ⟨gb202, 0, none⟩ = some (.int .i64 a0_0) := (blk_cell BK202.out 0).trans rfl);(have hcz25_1 : wr.cell? ⟨gb202, 1, none⟩ = some (.int .i64 a0_1) := (blk_cell BK202.out 1).trans rfl);(have hcz25_2 : wr.cell? ⟨gb202, 2, none⟩ = some (.int .i64 a0_2) := (blk_cell BK202.out 2).trans rfl);(have hcz25_3 : wr.cell? ⟨gb202, 3, none⟩ = some (.slice A0_3 l0_3.length c0_3) := (blk_cell BK202.out 3).trans rfl);(have hfz25_0 := blk_frozen BK202.out 0);(have hfz25_1 := blk_frozen BK202.out 1);(have hfz25_2 := blk_frozen BK202.out 2);(have hfz25_3 := blk_frozen BK202.out 3)
       (go_wp2_with (first | ((with_reducible refine gate_dst (N := 33) rfl ?_); refine Kd.R_make (Kd.int .i64) _ 2 rfl (N := 33) rfl 27 _ _ rfl (l0_3.length : Int) rfl rfl Try.underlying27 (.int .i64 0) 8 info2 rfl (by decide) (by omega) 0 (ok := fun _ => True) (okp := fun _ => True) rfl (fun _ hk => hk) trivial (of_decide_eq_true (by first | (with_reducible assumption) | assumption)) (Nat.le_trans (Nat.mul_le_mul_right _ (of_decide_eq_true (by first | (with_reducible assumption) | assumption) : (l0_3.length : Int).toNat ≤ 35184372088832)) (by omega)) (Below.refl _ _) (Nat.le_refl _) ?_; intro v208 w26 ho27 hb hg_ hnew_; clear hg_ hnew_; (first | rw [← Ny207.out] at ho27 | (simp only [Int.reduceToNat] at ho27; rw [← Ny207.out] at ho27)); have n0_ := Aside0.mk (Kd.R_lower ho27 (below_size (by repeat (first | (with_reducible first | exact HB.out | apply below_alloc | apply pw_below_drewN | apply below_drew1 | refine below_set ?_ GE202.out) | exact HB.out)))); have n1_ := Aside0.mk (blk_below (g := gb202) (o := .cells #[.int .i64 a0_0, .int .i64 a0_1, .int .i64 a0_2, .slice A0_3 l0_3.length c0_3] 26 (0, 0)) (by (with_reducible repeat first | refine blk_drewN ?_ _ | refine blk_drew ?_ | refine blk_alloc ?_ _); exact BK202.out) hb); have n2_ := Aside0.mk (below_step (by repeat (first | (with_reducible first | exact HB.out | apply below_alloc | apply pw_below_drewN | apply below_drew1 | refine below_set ?_ GE202.out) | exact HB.out)) hb); clear BK202; clear HB; have HO209 := n0_; have BK202 := n1_; have HB := n2_; clear n0_ n1_ n2_; clear hb ho27))); (go_loopg [36] k1 (fun kq v36 w' => ∃ (x9_2 : List Int) (x36_2 : Int), v36 = .int .i64 x36_2 ∧ Aside0 (decomp_Sum.l1 kq x9_2 l1 (l1.length : Int) x36_2 a0_0 a0_1 a0_2 l0_3 = some (r1, r2)) ∧ Aside0 (kq ≤ k1) ∧ Aside0 (Kd.R (Kd.int .i64) 2 w' w.heap.size (fun _ => True) v208 x9_2) ∧ Aside0 (w'.heap[gb202]? = some (.cells #[.int .i64 a0_0, .int .i64 a0_1, .int .i64 a0_2, (.slice A0_3 l0_3.length c0_3)] 26 (0, 0))) ∧ Aside0 (Below w.heap.size w w')))
       case atStart => exact ⟨(y207), (0), (by first | rfl | (simp; done) | (simp [*]; done)), H', ⟨Nat.le_refl _⟩, ⟨by (with_reducible repeat first | apply Kd.R_alloc | apply Kd.R_drewN | apply Kd.R_drew); exact HO209.out⟩, ⟨by (with_reducible repeat first | refine blk_drewN ?_ _ | refine blk_drew ?_ | refine blk_alloc ?_ _); exact BK202.out⟩, ⟨by repeat (first | (with_reducible first | exact HB.out | apply below_alloc | apply pw_below_drewN | apply below_drew1 | refine below_set ?_ GE202.out) | exact HB.out)⟩⟩
       case round =>
        clear H'
        try clear c1
        try clear c2
        try clear p2
        try clear q2
        try clear hx2
        try clear c4
        try clear c4b0
        try clear c4b1
        try clear p6
        try clear c8
        try clear c8b0
        try clear c9
        try clear c9b0
        try clear c10
        try clear c10b0
        try clear c12
        try clear c14
        try clear c15
        try clear c19
        try clear c20
        try clear p20
        try clear q20
        try clear hx20
        try clear c23
        try clear c23b0
        try clear c23b1
        try clear c24
        try clear c24b0
        try clear c24b1
        try clear c25
        try clear c26
        try clear hcz15_0
        try clear hcz15_1
        try clear hcz15_2
        try clear hcz16_0
        try clear hcz16_1
        try clear hcz16_2
        try clear hcz16_3
        try clear hcz20_0
        try clear hcz20_1
        try clear hcz20_2
        try clear hcz21_0
        try clear hcz21_1
        try clear hcz21_2
        try clear hcz21_3
        try clear hcz25_0
        try clear hcz25_1
        try clear hcz25_2
        try clear hcz25_3
        try clear hcz6_0
        try clear hcz6_1
        try clear hcz6_2
        try clear hcz6_3
        try clear hfz15_0
        try clear hfz15_1
        try clear hfz15_2
        try clear hfz16_0
        try clear hfz16_1
        try clear hfz16_2
        try clear hfz16_3
        try clear hfz20_0
        try clear hfz20_1
        try clear hfz20_2
        try clear hfz21_0
        try clear hfz21_1
        try clear hfz21_2
        try clear hfz21_3
        try clear hfz25_0
        try clear hfz25_1
        try clear hfz25_2
        try clear hfz25_3
        try clear hfz6_0
        try clear hfz6_1
        try clear hfz6_2
        try clear hfz6_3
        try clear hx204_0
        try clear hx204_1
        try clear hx204_2
        try clear p2
        try clear p204
        try clear q204
        obtain ⟨x9_2, x36_2, rfl, HA, HK2, HO_9, BK202, HB⟩ := hrel
        cases gk with
        | zero => exact absurd HA.out (by simp [decomp_Sum.l1])
        | succ k2 =>
         ((have H := HA.out);(clear HA);(simp only [decomp_Sum.l1] at H)); (by_cases c28 : x36_2 < (l1.length : Int))
         ·(rw [if_pos c28] at H);(have c28b0 : decide (x36_2 < (l1.length : Int)) = true := decide_eq_true c28);(clear c28)
          by_cases c29 : 0 ≤ x36_2
          ·(rw [if_pos c29] at H);(have c29b0 : decide (0 ≤ x36_2) = true := decide_eq_true c29);(clear c29)
           by_cases c30 : x36_2 < (l1.length : Int)
           ·(rw [if_pos c30] at H);(have c30b0 : decide (x36_2 < (l1.length : Int)) = true := decide_eq_true c30);(clear c30);(have H' := Aside0.mk H);(clear H);(have p210 : 0 ≤ (x36_2 : Int) := of_decide_eq_true (by first | (with_reducible assumption) | assumption));(have q210 : x36_2 < (l1.length : Int) := of_decide_eq_true (by first | (with_reducible assumption) | assumption));(obtain ⟨ad210, A210_1, c210_1, e210, hx210_0, hx210_1, hx210_2, hl210_1, hi210_1⟩ := at_T36 HR1.out x36_2 p210 q210);(cases e210);(replace hx210_0 := (HB.out.cell (World.block_lt_of_cell? w _ hx210_0)).trans hx210_0);(replace hx210_1 := (HB.out.cell (World.block_lt_of_cell? w _ hx210_1)).trans hx210_1);(replace hx210_2 := (HB.out.cell (World.block_lt_of_cell? w _ hx210_2)).trans hx210_2);(have HR210_1 := Aside0.mk hi210_1);(have HC210_1 := Aside0.mk hl210_1);(clear hi210_1 hl210_1);(replace p210 := eq_true p210);(replace q210 := eq_true q210)
            (go_wp2_with (first | ((with_reducible refine gate_dst (N := 11) rfl ?_); refine box_event ?hg (N := 11) ?hd (cs := #[.int .u8 0, .slice none 0 0, .int .i64 0]) (t := 36) ?hr ?_; (case hd => rfl); (case hg => rfl); (case hr => first | (go_simp; done) | (go_simp; rfl)); intro gb211 hg w31 hbox hb; have n0_ := Aside0.mk (Kd.R_below (by (with_reducible repeat first | apply Kd.R_alloc | apply Kd.R_drewN | apply Kd.R_drew); exact HO_9.out) hb); have n1_ := Aside0.mk (blk_below (g := gb202) (o := .cells #[.int .i64 a0_0, .int .i64 a0_1, .int .i64 a0_2, .slice A0_3 l0_3.length c0_3] 26 (0, 0)) (by (with_reducible repeat first | refine blk_drewN ?_ _ | refine blk_drew ?_ | refine blk_alloc ?_ _); exact BK202.out) hb); have n2_ := Aside0.mk (below_step (by repeat (first | (with_reducible first | exact HB.out | apply below_alloc | apply pw_below_drewN | apply below_drew1 | refine below_set ?_ GE202.out) | exact HB.out)) hb); have n3_ := Aside0.mk (hbox); have n4_ := Aside0.mk ((by rw [hg]; exact (below_size (by repeat (first | (with_reducible first | exact HB.out | apply below_alloc | apply pw_below_drewN | apply below_drew1 | refine below_set ?_ GE202.out) | exact HB.out))) : w.heap.size ≤ gb211)); have n5_ := Aside0.mk ((by rw [hg]; exact (below_size (by repeat (first | (with_reducible first | exact HB.out | apply below_alloc | apply pw_below_drewN | apply below_drew1 | refine below_set ?_ GE202.out) | exact HB.out))) : w.heap.size ≤ gb211)); have n6_ := Aside0.mk ((by rw [hg]; exact Nat.ne_of_lt (blk_lt (g := gb202) (o := .cells #[.int .i64 a0_0, .int .i64 a0_1, .int .i64 a0_2, .slice A0_3 l0_3.length c0_3] 26 (0, 0)) (by (with_reducible repeat first | refine blk_drewN ?_ _ | refine blk_drew ?_ | refine blk_alloc ?_ _); exact BK202.out)) : gb202 ≠ gb211)); have n7_ := Aside0.mk ((by rw [hg]; exact Nat.ne_of_gt (blk_lt (g := gb202) (o := .cells #[.int .i64 a0_0, .int .i64 a0_1, .int .i64 a0_2, .slice A0_3 l0_3.length c0_3] 26 (0, 0)) (by (with_reducible repeat first | refine blk_drewN ?_ _ | refine blk_drew ?_ | refine blk_alloc ?_ _); exact BK202.out)) : gb211 ≠ gb202)); clear HO_9; clear BK202; clear HB; have HO_9 := n0_; have BK202 := n1_; have HB := n2_; have BK211 := n3_; have GW211 := n4_; have GE211 := n5_; have NB202_211 := n6_; have NB211_202 := n7_; clear n0_ n1_ n2_ n3_ n4_ n5_ n6_ n7_; clear hb hbox hg; have hnb32 := NB211_202.out; have hnc32 := NB202_211.out; have hcz33_0 : w31.cell? ⟨gb211, 0, none⟩ = some (.int .u8 0) := (blk_cell BK211.out 0).trans rfl; have hcz33_1 : w31.cell? ⟨gb211, 1, none⟩ = some (.slice none 0 0) := (blk_cell BK211.out 1).trans rfl; have hcz33_2 : w31.cell? ⟨gb211, 2, none⟩ = some (.int .i64 0) := (blk_cell BK211.out 2).trans rfl; have hfz33_0 := blk_frozen BK211.out 0; have hfz33_1 := blk_frozen BK211.out 1; have hfz33_2 := blk_frozen BK211.out 2))); (go_loopg [43] k2 (fun kq v43 w' => ∃ (x9_3 : List Int) (x43_3 : Int), v43 = .int .i64 x43_3 ∧ Aside0 (decomp_Sum.l2 kq x9_3 l1 (l1.length : Int) x36_2 ((rd_T36 l1 x36_2).f1) (((rd_T36 l1 x36_2).f1).length : Int) x43_3 a0_0 a0_1 a0_2 l0_3 ((rd_T36 l1 x36_2).f0) ((rd_T36 l1 x36_2).f1) ((rd_T36 l1 x36_2).f2) = some (r1, r2)) ∧ Aside0 (kq ≤ k2) ∧ Aside0 (Kd.R (Kd.int .i64) 2 w' w.heap.size (fun _ => True) v208 x9_3) ∧ Aside0 (w'.heap[gb202]? = some (.cells #[.int .i64 a0_0, .int .i64 a0_1, .int .i64 a0_2, (.slice A0_3 l0_3.length c0_3)] 26 (0, 0))) ∧ Aside0 (w'.heap[gb211]? = some (.cells #[.int .u8 ((rd_T36 l1 x36_2).f0), (.slice A210_1 ((rd_T36 l1 x36_2).f1).length c210_1), .int .i64 ((rd_T36 l1 x36_2).f2)] 36 (0, 0))) ∧ Aside0 (Below w.heap.size w w')))
            case atStart => exact ⟨(x9_2), (0), (by first | rfl | (simp; done) | (simp [*]; done)), H', ⟨Nat.le_refl _⟩, ⟨by (with_reducible repeat first | apply Kd.R_alloc | apply Kd.R_drewN | apply Kd.R_drew); exact Kd.R_mono (Kd.R_far (p := ⟨gb211, 2, none⟩) (Kd.R_far (p := ⟨gb211, 1, none⟩) (Kd.R_far (p := ⟨gb211, 0, none⟩) (Kd.R_types HO_9.out BK211.out (by decide)) (fun _ hk => hk.2) (.int .u8 ((rd_T36 l1 x36_2).f0))) (fun _ hk => hk.2) (.slice A210_1 ((rd_T36 l1 x36_2).f1).length c210_1)) (fun _ hk => hk.2) (.int .i64 ((rd_T36 l1 x36_2).f2))) (fun _ hk => trivial)⟩, ⟨by (with_reducible repeat first | refine blk_drewN ?_ _ | refine blk_drew ?_ | refine blk_alloc ?_ _); refine blk_far ?_ NB202_211.out _; (with_reducible repeat first | refine blk_drewN ?_ _ | refine blk_drew ?_ | refine blk_alloc ?_ _); refine blk_far ?_ NB202_211.out _; (with_reducible repeat first | refine blk_drewN ?_ _ | refine blk_drew ?_ | refine blk_alloc ?_ _); refine blk_far ?_ NB202_211.out _; (with_reducible repeat first | refine blk_drewN ?_ _ | refine blk_drew ?_ | refine blk_alloc ?_ _); exact BK202.out⟩, ⟨by (with_reducible repeat first | refine blk_drewN ?_ _ | refine blk_drew ?_ | refine blk_alloc ?_ _); refine blk_put (cs := #[.int .u8 ((rd_T36 l1 x36_2).f0), .slice A210_1 ((rd_T36 l1 x36_2).f1).length c210_1, .int .i64 0]) ?_ 2 _ rfl; (with_reducible repeat first | refine blk_drewN ?_ _ | refine blk_drew ?_ | refine blk_alloc ?_ _); refine blk_put (cs := #[.int .u8 ((rd_T36 l1 x36_2).f0), .slice none 0 0, .int .i64 0]) ?_ 1 _ rfl; (with_reducible repeat first | refine blk_drewN ?_ _ | refine blk_drew ?_ | refine blk_alloc ?_ _); refine blk_put (cs := #[.int .u8 0, .slice none 0 0, .int .i64 0]) ?_ 0 _ rfl; (with_reducible repeat first | refine blk_drewN ?_ _ | refine blk_drew ?_ | refine blk_alloc ?_ _); exact BK211.out⟩, ⟨by repeat (first | (with_reducible first | exact HB.out | apply below_alloc | apply pw_below_drewN | apply below_drew1 | refine below_set ?_ GE202.out | refine below_set ?_ GE211.out) | exact HB.out)⟩⟩
            case round =>
             clear H'
             try clear c1
             try clear c2
             try clear p2
             try clear q2
             try clear hx2
             try clear c3
             try clear c4
             try clear c4b0
             try clear c4b1
             try clear p6
             try clear c8
             try clear c8b0
             try clear c9
             try clear c9b0
             try clear c10
             try clear c10b0
             try clear c12
             try clear c14
             try clear c15
             try clear c19
             try clear c20
             try clear p20
             try clear q20
             try clear hx20
             try clear c21
             try clear p21
             try clear q21
             try clear hx21
             try clear c23
             try clear c23b0
             try clear c23b1
             try clear c24
             try clear c24b0
             try clear c24b1
             try clear c25
             try clear c26
             try clear c28
             try clear c28b0
             try clear c29
             try clear c29b0
             try clear c30
             try clear c30b0
             try clear c32
             try clear hcz15_0
             try clear hcz15_1
             try clear hcz15_2
             try clear hcz16_0
             try clear hcz16_1
             try clear hcz16_2
             try clear hcz16_3
             try clear hcz20_0
             try clear hcz20_1
             try clear hcz20_2
             try clear hcz21_0
             try clear hcz21_1
             try clear hcz21_2
             try clear hcz21_3
             try clear hcz25_0
             try clear hcz25_1
             try clear hcz25_2
             try clear hcz25_3
             try clear hcz33_0
             try clear hcz33_1
             try clear hcz33_2
             try clear hcz6_0
             try clear hcz6_1
             try clear hcz6_2
             try clear hcz6_3
             try clear hfz15_0
             try clear hfz15_1
             try clear hfz15_2
             try clear hfz16_0
             try clear hfz16_1
             try clear hfz16_2
             try clear hfz16_3
             try clear hfz20_0
             try clear hfz20_1
             try clear hfz20_2
             try clear hfz21_0
             try clear hfz21_1
             try clear hfz21_2
             try clear hfz21_3
             try clear hfz25_0
             try clear hfz25_1
             try clear hfz25_2
             try clear hfz25_3
             try clear hfz33_0
             try clear hfz33_1
             try clear hfz33_2
             try clear hfz6_0
             try clear hfz6_1
             try clear hfz6_2
             try clear hfz6_3
             try clear hx204_0
             try clear hx204_1
             try clear hx204_2
             try clear hx210_0
             try clear hx210_1
             try clear hx210_2
             try clear p2
             try clear p20
             try clear p204
             try clear p210
             try clear p6
             try clear q2
             try clear q20
             try clear q204
             try clear q210
             obtain ⟨x9_3, x43_3, rfl, HA, HK3, HO_9, BK202, BK211, HB⟩ := hrel
             cases gk with
             | zero => exact absurd HA.out (by simp [decomp_Sum.l2])
             | succ k3 =>
              ((have H := HA.out);(clear HA);(simp only [decomp_Sum.l2] at H)); (by_cases c34 : x43_3 < (((rd_T36 l1 x36_2).f1).length : Int))
              ·(rw [if_pos c34] at H);(have c34b0 : decide (x43_3 < (((rd_T36 l1 x36_2).f1).length : Int)) = true := decide_eq_true c34);(clear c34)
               by_cases c35 : 0 ≤ x43_3
               ·(rw [if_pos c35] at H);(have c35b0 : decide (0 ≤ x43_3) = true := decide_eq_true c35);(clear c35)
                by_cases c36 : x43_3 < (((rd_T36 l1 x36_2).f1).length : Int)
                ·(rw [if_pos c36] at H);(have c36b0 : decide (x43_3 < (((rd_T36 l1 x36_2).f1).length : Int)) = true := decide_eq_true c36);(clear c36)
                 by_cases c37 : 0 ≤ (rd ((rd_T36 l1 x36_2).f1) x43_3)
                 ·(rw [if_pos c37] at H);(have c37b0 : decide (0 ≤ (rd ((rd_T36 l1 x36_2).f1) x43_3)) = true := decide_eq_true c37);(clear c37)
                  by_cases c38 : (rd ((rd_T36 l1 x36_2).f1) x43_3) < (l0_3.length : Int)
                  ·(rw [if_pos c38] at H);(have c38b0 : decide ((rd ((rd_T36 l1 x36_2).f1) x43_3) < (l0_3.length : Int)) = true := decide_eq_true c38);(clear c38)
                   by_cases c39 : (rd ((rd_T36 l1 x36_2).f1) x43_3) < (x9_3.length : Int)
                   ·(rw [if_pos c39] at H);(have c39b0 : decide ((rd ((rd_T36 l1 x36_2).f1) x43_3) < (x9_3.length : Int)) = true := decide_eq_true c39);(clear c39)
                    by_cases c40 : ((rd_T36 l1 x36_2).f2) > (wrap64 (((rd_T30 l0_3 (rd ((rd_T36 l1 x36_2).f1) x43_3)).f2) - (rd x9_3 (rd ((rd_T36 l1 x36_2).f1) x43_3))))
                    ·(rw [if_pos c40] at H);(have c40b0 : decide ((wrap64 (((rd_T30 l0_3 (rd ((rd_T36 l1 x36_2).f1) x43_3)).f2) - (rd x9_3 (rd ((rd_T36 l1 x36_2).f1) x43_3)))) < ((rd_T36 l1 x36_2).f2)) = true := decide_eq_true c40);(clear c40)
                     as_aux_lemma =>
                      (simp only [Option.some.injEq, Prod.mk.injEq] at H);(obtain ⟨rfl, rfl⟩ := H);(have p212 : 0 ≤ (x43_3 : Int) := of_decide_eq_true (by first | (with_reducible assumption) | assumption));(have q212 : x43_3 < (((rd_T36 l1 x36_2).f1).length : Int) := of_decide_eq_true (by first | (with_reducible assumption) | assumption));(obtain ⟨ad212, e212, hx212_0⟩ := Kd.at_int HR210_1.out x43_3 p212 q212);(cases e212);(replace hx212_0 := (HB.out.cell (World.block_lt_of_cell? w _ hx212_0)).trans hx212_0);(replace p212 := eq_true p212);(replace q212 := eq_true q212)
                      try go_wp2
                      ((have n0_ := Aside0.mk (Kd.R_drew HO_9.out));(have n1_ := Aside0.mk (blk_drew BK202.out));(have n2_ := Aside0.mk (blk_drew BK211.out));(have n3_ := Aside0.mk (below_drew1 HB.out));(clear HO_9);(clear BK202);(clear BK211);(clear HB);(have HO_9 := n0_);(have BK202 := n1_);(have BK211 := n2_);(have HB := n3_);(clear n0_ n1_ n2_ n3_);(have p213 : 0 ≤ ((rd ((rd_T36 l1 x36_2).f1) x43_3) : Int) := of_decide_eq_true (by first | (with_reducible assumption) | assumption));(have q213 : (rd ((rd_T36 l1 x36_2).f1) x43_3) < (l0_3.length : Int) := of_decide_eq_true (by first | (with_reducible assumption) | assumption));(obtain ⟨ad213, e213, hx213_0, hx213_1, hx213_2⟩ := at_T30 HR0_3.out (rd ((rd_T36 l1 x36_2).f1) x43_3) p213 q213);(have hw213_2 := hx213_2);(have hw213_1 := hx213_1);(have hw213_0 := hx213_0);(cases e213);(replace hx213_0 := (HB.out.cell (World.block_lt_of_cell? w _ hx213_0)).trans hx213_0);(replace hx213_1 := (HB.out.cell (World.block_lt_of_cell? w _ hx213_1)).trans hx213_1);(replace hx213_2 := (HB.out.cell (World.block_lt_of_cell? w _ hx213_2)).trans hx213_2);(replace p213 := eq_true p213);(replace q213 := eq_true q213);(obtain ⟨Ao42, co42, eo42⟩ := Kd.R_slice HO_9.out);((first | subst eo42 | (injection eo42 with f1_ f2_ f3_; have f4_ := f1_.symm; have f5_ := f3_.symm; clear f1_ f2_ f3_; subst f4_; subst f5_)));(have p214 : 0 ≤ ((rd ((rd_T36 l1 x36_2).f1) x43_3) : Int) := of_decide_eq_true (by first | (with_reducible assumption) | assumption));(have q214 : (rd ((rd_T36 l1 x36_2).f1) x43_3) < (x9_3.length : Int) := of_decide_eq_true (by first | (with_reducible assumption) | assumption));(obtain ⟨ad214, e214, hx214_0⟩ := Kd.at_int (Kd.R_reads' HO_9.out).2.2 (rd ((rd_T36 l1 x36_2).f1) x43_3) p214 q214);(cases e214);(replace p214 := eq_true p214);(replace q214 := eq_true q214);(refine start_ (n := 14) (S := fun w' => w'.cell? ⟨gb211, 0, none⟩ = some (.int .u8 ((rd_T36 l1 x36_2).f0)) ∧ w'.cell? ⟨gb211, 1, none⟩ = some (.slice (some ad212) ((rd_T36 l1 x36_2).f1).length c210_1) ∧ w'.cell? ⟨gb211, 2, none⟩ = some (.int .i64 ((rd_T36 l1 x36_2).f2)) ∧ w'.cell? ⟨gb202, 0, none⟩ = some (.int .i64 a0_0) ∧ w'.cell? ⟨gb202, 1, none⟩ = some (.int .i64 a0_1) ∧ w'.cell? ⟨gb202, 2, none⟩ = some (.int .i64 a0_2) ∧ w'.cell? ⟨gb202, 3, none⟩ = some (.slice (some ad213) l0_3.length c0_3) ∧ w'.cell? (ad213.add (((rd ((rd_T36 l1 x36_2).f1) x43_3)).toNat * 3)) = some (.int .i64 ((rd_T30 l0_3 (rd ((rd_T36 l1 x36_2).f1) x43_3)).f0)) ∧ w'.cell? ⟨(ad213.add (((rd ((rd_T36 l1 x36_2).f1) x43_3)).toNat * 3)).block, (ad213.add (((rd ((rd_T36 l1 x36_2).f1) x43_3)).toNat * 3)).off + 1, none⟩ = some (.int .i64 ((rd_T30 l0_3 (rd ((rd_T36 l1 x36_2).f1) x43_3)).f1)) ∧ w'.cell? ⟨(ad213.add (((rd ((rd_T36 l1 x36_2).f1) x43_3)).toNat * 3)).block, (ad213.add (((rd ((rd_T36 l1 x36_2).f1) x43_3)).toNat * 3)).off + 2, none⟩ = some (.int .i64 ((rd_T30 l0_3 (rd ((rd_T36 l1 x36_2).f1) x43_3)).f2)) ∧ w'.cell? (ad214.add ((rd ((rd_T36 l1 x36_2).f1) x43_3)).toNat) = some (.int .i64 (rd x9_3 (rd ((rd_T36 l1 x36_2).f1) x43_3)))) (ds := []) #[F,F,F,F,F,F,F,F,F,F,F,F,F,F] (by kernel_rfl) rfl rfl ⟨(blk_cell BK211.out 0).trans rfl, (blk_cell BK211.out 1).trans rfl, (blk_cell BK211.out 2).trans rfl, (blk_cell BK202.out 0).trans rfl, (blk_cell BK202.out 1).trans rfl, (blk_cell BK202.out 2).trans rfl, (blk_cell BK202.out 3).trans rfl, ((HB.out.cell (World.block_lt_of_cell? w _ hw213_0)).trans hw213_0), ((HB.out.cell (World.block_lt_of_cell? w _ hw213_1)).trans hw213_1), ((HB.out.cell (World.block_lt_of_cell? w _ hw213_2)).trans hw213_2), hx214_0⟩ (fun hHeld => ?_); refine with_tabW decomp_Sum.tab17 decomp_Sum.bits17 (fun HT_ HW_ => ?_));(generalize wr.drew = w41 at HO_9 BK202 BK211 HB hx213_0 hx213_1 hx213_2 hx214_0 hHeld ⊢);(refine pure_ (i := 0) (N := some 47) (v := ?_) (a' := ?_) #[T,F,F,F,F,F,F,F,F,F,F,F,F,F] rfl rfl (any_of HT_.out (by kernel_rfl)) (fun _ _ _ h => h) (Or.inl ⟨by rfl, ?_⟩) ?_ ?_)); rotate_left; (·intro w'; go_simp; with_reducible rfl); rotate_left; (·(simp only [Act.put, sA_, sZ_, sS_, i64_w, i32_w]); rfl); (refine pure_ (i := 2) (N := some 49) (v := ?_) (a' := ?_) #[T,F,T,F,F,F,F,F,F,F,F,F,F,F] rfl rfl (any_of HT_.out (by kernel_rfl)) (fun _ _ _ h => h) (Or.inl ⟨by rfl, ?_⟩) ?_ ?_); rotate_left; (·intro w'; go_simp; with_reducible rfl); rotate_left; (·(simp only [Act.put, sA_, sZ_, sS_, i64_w, i32_w]); rfl); (refine pure_ (i := 4) (N := some 51) (v := ?_) (a' := ?_) #[T,F,T,F,T,F,F,F,F,F,F,F,F,F] rfl rfl (any_of HT_.out (by kernel_rfl)) (fun _ _ _ h => h) (Or.inl ⟨by rfl, ?_⟩) ?_ ?_); rotate_left; (·intro w'; go_simp; with_reducible rfl); rotate_left; (·(simp only [Act.put, sA_, sZ_, sS_, i64_w, i32_w]); rfl); (refine pure_ (i := 8) (N := some 55) (v := ?_) (a' := ?_) #[T,F,T,F,T,F,F,F,T,F,F,F,F,F] rfl rfl (any_of HT_.out (by kernel_rfl)) (fun _ _ _ h => h) (Or.inl ⟨by rfl, ?_⟩) ?_ ?_); rotate_left; (·intro w'; go_simp; with_reducible rfl); rotate_left; (·(simp only [Act.put, sA_, sZ_, sS_, i64_w, i32_w]); rfl); (refine pure_ (i := 9) (N := some 56) (v := ?_) (a' := ?_) #[T,F,T,F,T,F,F,F,T,T,F,F,F,F] rfl rfl (any_of HT_.out (by kernel_rfl)) (fun _ _ _ h => h) (Or.inl ⟨by rfl, ?_⟩) ?_ ?_); rotate_left; (·intro w'; go_simp; with_reducible rfl); rotate_left; (·(simp only [Act.put, sA_, sZ_, sS_, i64_w, i32_w]); rfl); (refine pure_ (i := 10) (N := some 57) (v := ?_) (a' := ?_) #[T,F,T,F,T,F,F,F,T,T,T,F,F,F] rfl rfl (any_of HT_.out (by kernel_rfl)) (fun _ _ _ h => h) (Or.inl ⟨by rfl, ?_⟩) ?_ ?_)
                      rotate_left; (·intro w'; go_simp; with_reducible rfl); rotate_left; (·(simp only [Act.put, sA_, sZ_, sS_, i64_w, i32_w]); rfl); (refine take_ (i := 1) (N := some 48) (v := ?_) (a' := ?_) #[T,T,T,F,T,F,F,F,T,T,T,F,F,F] rfl rfl (take_ofW HT_.out HW_.out (by kernel_rfl)) (fun _ _ _ h => h) (Or.inl ⟨by rfl, ?_⟩) hHeld ?_ ?_); rotate_left; (·(rintro w' ⟨s0, s1, s2, s3, s4, s5, s6, s7, s8, s9, s10⟩); go_simp; with_reducible rfl); rotate_left; (·(simp only [Act.put, sA_, sZ_, sS_, i64_w, i32_w]); rfl); (refine take_ (i := 3) (N := some 50) (v := ?_) (a' := ?_) #[T,T,T,T,T,F,F,F,T,T,T,F,F,F] rfl rfl (take_ofW HT_.out HW_.out (by kernel_rfl)) (fun _ _ _ h => h) (Or.inl ⟨by rfl, ?_⟩) hHeld ?_ ?_); rotate_left; (·(rintro w' ⟨s0, s1, s2, s3, s4, s5, s6, s7, s8, s9, s10⟩); go_simp; with_reducible rfl); rotate_left; (·(simp only [Act.put, sA_, sZ_, sS_, i64_w, i32_w]); rfl); (refine pure_ (i := 5) (N := some 52) (v := ?_) (a' := ?_) #[T,T,T,T,T,T,F,F,T,T,T,F,F,F] rfl rfl (any_of HT_.out (by kernel_rfl)) (fun _ _ _ h => h) (Or.inl ⟨by rfl, ?_⟩) ?_ ?_); rotate_left; (·intro w'; go_simp; with_reducible rfl); rotate_left; (·(simp only [Act.put, sA_, sZ_, sS_, i64_w, i32_w]); rfl); (refine pure_ (i := 6) (N := some 53) (v := ?_) (a' := ?_) #[T,T,T,T,T,T,T,F,T,T,T,F,F,F] rfl rfl (any_of HT_.out (by kernel_rfl)) (fun _ _ _ h => h) (Or.inl ⟨by rfl, ?_⟩) ?_ ?_); rotate_left; (·intro w'; go_simp; with_reducible rfl); rotate_left; (·(simp only [Act.put, sA_, sZ_, sS_, i64_w, i32_w]); rfl); (refine take_ (i := 7) (N := some 54) (v := ?_) (a' := ?_) #[T,T,T,T,T,T,T,T,T,T,T,F,F,F] rfl rfl (take_ofW HT_.out HW_.out (by kernel_rfl)) (fun _ _ _ h => h) (Or.inl ⟨by rfl, ?_⟩) hHeld ?_ ?_); rotate_left; (·(rintro w' ⟨s0, s1, s2, s3, s4, s5, s6, s7, s8, s9, s10⟩); go_simp; with_reducible rfl); rotate_left; (·(simp only [Act.put, sA_, sZ_, sS_, i64_w, i32_w]); rfl); (refine take_ (i := 11) (N := some 58) (v := ?_) (a' := ?_) #[T,T,T,T,T,T,T,T,T,T,T,T,F,F] rfl rfl (take_ofW HT_.out HW_.out (by kernel_rfl)) (fun _ _ _ h => h) (Or.inl ⟨by rfl, ?_⟩) hHeld ?_ ?_); rotate_left; (·(rintro w' ⟨s0, s1, s2, s3, s4, s5, s6, s7, s8, s9, s10⟩); go_simp; with_reducible rfl); rotate_left; (·(simp only [Act.put, sA_, sZ_, sS_, i64_w, i32_w]); rfl); (refine pure_ (i := 12) (N := some 59) (v := ?_) (a' := ?_) #[T,T,T,T,T,T,T,T,T,T,T,T,T,F] rfl rfl (any_of HT_.out (by kernel_rfl)) (fun _ _ _ h => h) (Or.inl ⟨by rfl, ?_⟩) ?_ ?_); rotate_left; (·intro w'; go_simp; with_reducible rfl); rotate_left; (·(simp only [Act.put, sA_, sZ_, sS_, i64_w, i32_w]); rfl); (refine pure_ (i := 13) (N := some 60) (v := ?_) (a' := ?_) #[T,T,T,T,T,T,T,T,T,T,T,T,T,T] rfl rfl (any_of HT_.out (by kernel_rfl)) (fun _ _ _ h => h) (Or.inl ⟨by rfl, ?_⟩) ?_ ?_); rotate_left; (·intro w'; go_simp; with_reducible rfl); rotate_left; (·(simp only [Act.put, sA_, sZ_, sS_, i64_w, i32_w]); rfl); (refine done_ (done_of HT_.out (by kernel_rfl)) ?_)
                      try go_wp2
                      (go_ret2); (exact ⟨_, by first | rfl | (simp [errW_none, errW_some] <;> rfl) | (simp [*, errW_none, errW_some] <;> rfl), by first | exact Kd.R_nil _ _ _ _ _ | exact Kd.N_nil _ _ _ _ _ | exact Kd.V_nil _ _ _ _ _ | exact Kd.Q_nil _ _ _ _ _ | exact Kd.S_nil _ _ _ _ _, by repeat (first | (with_reducible first | exact HB.out | apply below_alloc | apply pw_below_drewN | apply below_drew1 | refine below_set ?_ GE202.out | refine below_set ?_ GE211.out) | exact HB.out)⟩)
                    ·(rw [if_neg c40] at H);(have c40b0 : decide ((wrap64 (((rd_T30 l0_3 (rd ((rd_T36 l1 x36_2).f1) x43_3)).f2) - (rd x9_3 (rd ((rd_T36 l1 x36_2).f1) x43_3)))) < ((rd_T36 l1 x36_2).f2)) = false := decide_eq_false c40);(clear c40);(obtain ⟨y216, hy216⟩ : ∃ y_ : List Int, y_ = (x9_3.set ((rd ((rd_T36 l1 x36_2).f1) x43_3) : Int).toNat (wrap64 ((rd x9_3 (rd ((rd_T36 l1 x36_2).f1) x43_3)) + ((rd_T36 l1 x36_2).f2)))) := ⟨_, rfl⟩);(replace H : (decomp_Sum.l2 k3 y216 l1 (l1.length : Int) x36_2 ((rd_T36 l1 x36_2).f1) (((rd_T36 l1 x36_2).f1).length : Int) (wrap64 (x43_3 + 1)) a0_0 a0_1 a0_2 l0_3 ((rd_T36 l1 x36_2).f0) ((rd_T36 l1 x36_2).f1) ((rd_T36 l1 x36_2).f2)) = some (r1, r2) := by first | (rw [hy216]; with_reducible exact H) | (have H2_ := (Option.bind_some _ _).symm.trans H; rw [hy216]; with_reducible exact H2_) | (have H2_ := (Option.bind_some _ _).symm.trans H; with_reducible exact H2_) | with_reducible exact H | (rw [hy216]; exact H) | exact H);(have Ny216 := Aside0.mk hy216);(clear hy216)
                     as_aux_lemma =>
                      (have H' := Aside0.mk H);(clear H);(have p212 : 0 ≤ (x43_3 : Int) := of_decide_eq_true (by first | (with_reducible assumption) | assumption));(have q212 : x43_3 < (((rd_T36 l1 x36_2).f1).length : Int) := of_decide_eq_true (by first | (with_reducible assumption) | assumption));(obtain ⟨ad212, e212, hx212_0⟩ := Kd.at_int HR210_1.out x43_3 p212 q212);(cases e212);(replace hx212_0 := (HB.out.cell (World.block_lt_of_cell? w _ hx212_0)).trans hx212_0);(replace p212 := eq_true p212);(replace q212 := eq_true q212)
                      try go_wp2
                      ((have n0_ := Aside0.mk (Kd.R_drew HO_9.out));(have n1_ := Aside0.mk (blk_drew BK202.out));(have n2_ := Aside0.mk (blk_drew BK211.out));(have n3_ := Aside0.mk (below_drew1 HB.out));(clear HO_9);(clear BK202);(clear BK211);(clear HB);(have HO_9 := n0_);(have BK202 := n1_);(have BK211 := n2_);(have HB := n3_);(clear n0_ n1_ n2_ n3_);(have p213 : 0 ≤ ((rd ((rd_T36 l1 x36_2).f1) x43_3) : Int) := of_decide_eq_true (by first | (with_reducible assumption) | assumption));(have q213 : (rd ((rd_T36 l1 x36_2).f1) x43_3) < (l0_3.length : Int) := of_decide_eq_true (by first | (with_reducible assumption) | assumption));(obtain ⟨ad213, e213, hx213_0, hx213_1, hx213_2⟩ := at_T30 HR0_3.out (rd ((rd_T36 l1 x36_2).f1) x43_3) p213 q213);(have hw213_2 := hx213_2);(have hw213_1 := hx213_1);(have hw213_0 := hx213_0);(cases e213);(replace hx213_0 := (HB.out.cell (World.block_lt_of_cell? w _ hx213_0)).trans hx213_0);(replace hx213_1 := (HB.out.cell (World.block_lt_of_cell? w _ hx213_1)).trans hx213_1);(replace hx213_2 := (HB.out.cell (World.block_lt_of_cell? w _ hx213_2)).trans hx213_2);(replace p213 := eq_true p213);(replace q213 := eq_true q213);(obtain ⟨Ao45, co45, eo45⟩ := Kd.R_slice HO_9.out);((first | subst eo45 | (injection eo45 with f1_ f2_ f3_; have f4_ := f1_.symm; have f5_ := f3_.symm; clear f1_ f2_ f3_; subst f4_; subst f5_)));(have p214 : 0 ≤ ((rd ((rd_T36 l1 x36_2).f1) x43_3) : Int) := of_decide_eq_true (by first | (with_reducible assumption) | assumption));(have q214 : (rd ((rd_T36 l1 x36_2).f1) x43_3) < (x9_3.length : Int) := of_decide_eq_true (by first | (with_reducible assumption) | assumption));(obtain ⟨ad214, e214, hx214_0⟩ := Kd.at_int (Kd.R_reads' HO_9.out).2.2 (rd ((rd_T36 l1 x36_2).f1) x43_3) p214 q214);(cases e214);(replace p214 := eq_true p214);(replace q214 := eq_true q214);(refine start_ (n := 14) (S := fun w' => w'.cell? ⟨gb211, 0, none⟩ = some (.int .u8 ((rd_T36 l1 x36_2).f0)) ∧ w'.cell? ⟨gb211, 1, none⟩ = some (.slice (some ad212) ((rd_T36 l1 x36_2).f1).length c210_1) ∧ w'.cell? ⟨gb211, 2, none⟩ = some (.int .i64 ((rd_T36 l1 x36_2).f2)) ∧ w'.cell? ⟨gb202, 0, none⟩ = some (.int .i64 a0_0) ∧ w'.cell? ⟨gb202, 1, none⟩ = some (.int .i64 a0_1) ∧ w'.cell? ⟨gb202, 2, none⟩ = some (.int .i64 a0_2) ∧ w'.cell? ⟨gb202, 3, none⟩ = some (.slice (some ad213) l0_3.length c0_3) ∧ w'.cell? (ad213.add (((rd ((rd_T36 l1 x36_2).f1) x43_3)).toNat * 3)) = some (.int .i64 ((rd_T30 l0_3 (rd ((rd_T36 l1 x36_2).f1) x43_3)).f0)) ∧ w'.cell? ⟨(ad213.add (((rd ((rd_T36 l1 x36_2).f1) x43_3)).toNat * 3)).block, (ad213.add (((rd ((rd_T36 l1 x36_2).f1) x43_3)).toNat * 3)).off + 1, none⟩ = some (.int .i64 ((rd_T30 l0_3 (rd ((rd_T36 l1 x36_2).f1) x43_3)).f1)) ∧ w'.cell? ⟨(ad213.add (((rd ((rd_T36 l1 x36_2).f1) x43_3)).toNat * 3)).block, (ad213.add (((rd ((rd_T36 l1 x36_2).f1) x43_3)).toNat * 3)).off + 2, none⟩ = some (.int .i64 ((rd_T30 l0_3 (rd ((rd_T36 l1 x36_2).f1) x43_3)).f2)) ∧ w'.cell? (ad214.add ((rd ((rd_T36 l1 x36_2).f1) x43_3)).toNat) = some (.int .i64 (rd x9_3 (rd ((rd_T36 l1 x36_2).f1) x43_3)))) (ds := []) #[F,F,F,F,F,F,F,F,F,F,F,F,F,F] (by kernel_rfl) rfl rfl ⟨(blk_cell BK211.out 0).trans rfl, (blk_cell BK211.out 1).trans rfl, (blk_cell BK211.out 2).trans rfl, (blk_cell BK202.out 0).trans rfl, (blk_cell BK202.out 1).trans rfl, (blk_cell BK202.out 2).trans rfl, (blk_cell BK202.out 3).trans rfl, ((HB.out.cell (World.block_lt_of_cell? w _ hw213_0)).trans hw213_0), ((HB.out.cell (World.block_lt_of_cell? w _ hw213_1)).trans hw213_1), ((HB.out.cell (World.block_lt_of_cell? w _ hw213_2)).trans hw213_2), hx214_0⟩ (fun hHeld => ?_); refine with_tabW decomp_Sum.tab17 decomp_Sum.bits17 (fun HT_ HW_ => ?_));(generalize wr.drew = w44 at HO_9 BK202 BK211 HB hx213_0 hx213_1 hx213_2 hx214_0 hHeld ⊢);(refine pure_ (i := 0) (N := some 47) (v := ?_) (a' := ?_) #[T,F,F,F,F,F,F,F,F,F,F,F,F,F] rfl rfl (any_of HT_.out (by kernel_rfl)) (fun _ _ _ h => h) (Or.inl ⟨by rfl, ?_⟩) ?_ ?_)); rotate_left; (·intro w'; go_simp; with_reducible rfl); rotate_left; (·(simp only [Act.put, sA_, sZ_, sS_, i64_w, i32_w]); rfl); (refine pure_ (i := 2) (N := some 49) (v := ?_) (a' := ?_) #[T,F,T,F,F,F,F,F,F,F,F,F,F,F] rfl rfl (any_of HT_.out (by kernel_rfl)) (fun _ _ _ h => h) (Or.inl ⟨by rfl, ?_⟩) ?_ ?_); rotate_left; (·intro w'; go_simp; with_reducible rfl); rotate_left; (·(simp only [Act.put, sA_, sZ_, sS_, i64_w, i32_w]); rfl); (refine pure_ (i := 4) (N := some 51) (v := ?_) (a' := ?_) #[T,F,T,F,T,F,F,F,F,F,F,F,F,F] rfl rfl (any_of HT_.out (by kernel_rfl)) (fun _ _ _ h => h) (Or.inl ⟨by rfl, ?_⟩) ?_ ?_); rotate_left; (·intro w'; go_simp; with_reducible rfl); rotate_left; (·(simp only [Act.put, sA_, sZ_, sS_, i64_w, i32_w]); rfl); (refine pure_ (i := 8) (N := some 55) (v := ?_) (a' := ?_) #[T,F,T,F,T,F,F,F,T,F,F,F,F,F] rfl rfl (any_of HT_.out (by kernel_rfl)) (fun _ _ _ h => h) (Or.inl ⟨by rfl, ?_⟩) ?_ ?_); rotate_left; (·intro w'; go_simp; with_reducible rfl); rotate_left; (·(simp only [Act.put, sA_, sZ_, sS_, i64_w, i32_w]); rfl); (refine pure_ (i := 9) (N := some 56) (v := ?_) (a' := ?_) #[T,F,T,F,T,F,F,F,T,T,F,F,F,F] rfl rfl (any_of HT_.out (by kernel_rfl)) (fun _ _ _ h => h) (Or.inl ⟨by rfl, ?_⟩) ?_ ?_); rotate_left; (·intro w'; go_simp; with_reducible rfl); rotate_left; (·(simp only [Act.put, sA_, sZ_, sS_, i64_w, i32_w]); rfl); (refine pure_ (i := 10) (N := some 57) (v := ?_) (a' := ?_) #[T,F,T,F,T,F,F,F,T,T,T,F,F,F] rfl rfl (any_of HT_.out (by kernel_rfl)) (fun _ _ _ h => h) (Or.inl ⟨by rfl, ?_⟩) ?_ ?_)
                      rotate_left; (·intro w'; go_simp; with_reducible rfl); rotate_left; (·(simp only [Act.put, sA_, sZ_, sS_, i64_w, i32_w]); rfl); (refine take_ (i := 1) (N := some 48) (v := ?_) (a' := ?_) #[T,T,T,F,T,F,F,F,T,T,T,F,F,F] rfl rfl (take_ofW HT_.out HW_.out (by kernel_rfl)) (fun _ _ _ h => h) (Or.inl ⟨by rfl, ?_⟩) hHeld ?_ ?_); rotate_left; (·(rintro w' ⟨s0, s1, s2, s3, s4, s5, s6, s7, s8, s9, s10⟩); go_simp; with_reducible rfl); rotate_left; (·(simp only [Act.put, sA_, sZ_, sS_, i64_w, i32_w]); rfl); (refine take_ (i := 3) (N := some 50) (v := ?_) (a' := ?_) #[T,T,T,T,T,F,F,F,T,T,T,F,F,F] rfl rfl (take_ofW HT_.out HW_.out (by kernel_rfl)) (fun _ _ _ h => h) (Or.inl ⟨by rfl, ?_⟩) hHeld ?_ ?_); rotate_left; (·(rintro w' ⟨s0, s1, s2, s3, s4, s5, s6, s7, s8, s9, s10⟩); go_simp; with_reducible rfl); rotate_left; (·(simp only [Act.put, sA_, sZ_, sS_, i64_w, i32_w]); rfl); (refine pure_ (i := 5) (N := some 52) (v := ?_) (a' := ?_) #[T,T,T,T,T,T,F,F,T,T,T,F,F,F] rfl rfl (any_of HT_.out (by kernel_rfl)) (fun _ _ _ h => h) (Or.inl ⟨by rfl, ?_⟩) ?_ ?_); rotate_left; (·intro w'; go_simp; with_reducible rfl); rotate_left; (·(simp only [Act.put, sA_, sZ_, sS_, i64_w, i32_w]); rfl); (refine pure_ (i := 6) (N := some 53) (v := ?_) (a' := ?_) #[T,T,T,T,T,T,T,F,T,T,T,F,F,F] rfl rfl (any_of HT_.out (by kernel_rfl)) (fun _ _ _ h => h) (Or.inl ⟨by rfl, ?_⟩) ?_ ?_); rotate_left; (·intro w'; go_simp; with_reducible rfl); rotate_left; (·(simp only [Act.put, sA_, sZ_, sS_, i64_w, i32_w]); rfl); (refine take_ (i := 7) (N := some 54) (v := ?_) (a' := ?_) #[T,T,T,T,T,T,T,T,T,T,T,F,F,F] rfl rfl (take_ofW HT_.out HW_.out (by kernel_rfl)) (fun _ _ _ h => h) (Or.inl ⟨by rfl, ?_⟩) hHeld ?_ ?_); rotate_left; (·(rintro w' ⟨s0, s1, s2, s3, s4, s5, s6, s7, s8, s9, s10⟩); go_simp; with_reducible rfl); rotate_left; (·(simp only [Act.put, sA_, sZ_, sS_, i64_w, i32_w]); rfl); (refine take_ (i := 11) (N := some 58) (v := ?_) (a' := ?_) #[T,T,T,T,T,T,T,T,T,T,T,T,F,F] rfl rfl (take_ofW HT_.out HW_.out (by kernel_rfl)) (fun _ _ _ h => h) (Or.inl ⟨by rfl, ?_⟩) hHeld ?_ ?_); rotate_left; (·(rintro w' ⟨s0, s1, s2, s3, s4, s5, s6, s7, s8, s9, s10⟩); go_simp; with_reducible rfl); rotate_left; (·(simp only [Act.put, sA_, sZ_, sS_, i64_w, i32_w]); rfl); (refine pure_ (i := 12) (N := some 59) (v := ?_) (a' := ?_) #[T,T,T,T,T,T,T,T,T,T,T,T,T,F] rfl rfl (any_of HT_.out (by kernel_rfl)) (fun _ _ _ h => h) (Or.inl ⟨by rfl, ?_⟩) ?_ ?_); rotate_left; (·intro w'; go_simp; with_reducible rfl); rotate_left; (·(simp only [Act.put, sA_, sZ_, sS_, i64_w, i32_w]); rfl); (refine pure_ (i := 13) (N := some 60) (v := ?_) (a' := ?_) #[T,T,T,T,T,T,T,T,T,T,T,T,T,T] rfl rfl (any_of HT_.out (by kernel_rfl)) (fun _ _ _ h => h) (Or.inl ⟨by rfl, ?_⟩) ?_ ?_); rotate_left; (·intro w'; go_simp; with_reducible rfl); rotate_left; (·(simp only [Act.put, sA_, sZ_, sS_, i64_w, i32_w]); rfl); (refine done_ (done_of HT_.out (by kernel_rfl)) ?_)
                      try go_wp2
                      ((have n0_ := Aside0.mk (Kd.R_drew HO_9.out));(have n1_ := Aside0.mk (blk_drew BK202.out));(have n2_ := Aside0.mk (blk_drew BK211.out));(have n3_ := Aside0.mk (below_drew1 HB.out));(clear HO_9);(clear BK202);(clear BK211);(clear HB);(have HO_9 := n0_);(have BK202 := n1_);(have BK211 := n2_);(have HB := n3_);(clear n0_ n1_ n2_ n3_);(have p215 : 0 ≤ ((rd ((rd_T36 l1 x36_2).f1) x43_3) : Int) := of_decide_eq_true (by first | (with_reducible assumption) | assumption));(have q215 : (rd ((rd_T36 l1 x36_2).f1) x43_3) < (x9_3.length : Int) := of_decide_eq_true (by first | (with_reducible assumption) | assumption));(obtain ⟨ad215, e215, hx215_0⟩ := Kd.at_int (Kd.R_reads' HO_9.out).2.2 (rd ((rd_T36 l1 x36_2).f1) x43_3) p215 q215);(obtain rfl : ad214 = ad215 := (by injection e215));(replace p215 := eq_true p215);(replace q215 := eq_true q215);(have p43 : 0 ≤ ((rd ((rd_T36 l1 x36_2).f1) x43_3) : Int) := of_decide_eq_true (by first | (with_reducible assumption) | assumption));(have q43 : ((rd ((rd_T36 l1 x36_2).f1) x43_3) : Int) < ((x9_3.length : Int) : Int) := of_decide_eq_true (by first | (with_reducible assumption) | assumption));(obtain ⟨go43, co43, eo43, gb43, gl43, cl43, HG43⟩ := Kd.R_form HO_9.out (by omega));((first | cases eo43 | (injection eo43 with ea_ en_ ec_; (first | subst ea_ | (injection ea_ with ea_; subst ea_)); subst ec_; clear en_)));(have GB43 := Aside0.mk gb43);(have GG43 := Aside0.mk HG43);(clear gb43 gl43 HG43);((first | simp only [add_plain] at hx214_0 | skip));((first | simp only [add_plain] at hx215_0 | skip));(obtain ⟨hx43_0, hf43_0⟩ := Kd.R_celln 0 HO_9.out ((rd ((rd_T36 l1 x36_2).f1) x43_3) : Int) p43 q43);(replace p43 := eq_true p43);(replace q43 := eq_true q43);(have HP47 := Kd.R_putn HO_9.out ((rd ((rd_T36 l1 x36_2).f1) x43_3) : Int) (wrap64 ((rd x9_3 (rd ((rd_T36 l1 x36_2).f1) x43_3)) + ((rd_T36 l1 x36_2).f2))));(rw [← Ny216.out] at HP47);(have HQ47 := Aside0.mk HP47);(clear HP47);(refine start_ (n := 9) (S := fun w' => w'.cell? ⟨gb211, 0, none⟩ = some (.int .u8 ((rd_T36 l1 x36_2).f0)) ∧ w'.cell? ⟨gb211, 1, none⟩ = some (.slice (some ad212) ((rd_T36 l1 x36_2).f1).length c210_1) ∧ w'.cell? ⟨gb211, 2, none⟩ = some (.int .i64 ((rd_T36 l1 x36_2).f2)) ∧ w'.cell? ⟨go43, ((rd ((rd_T36 l1 x36_2).f1) x43_3)).toNat, none⟩ = some (.int .i64 (rd x9_3 (rd ((rd_T36 l1 x36_2).f1) x43_3)))) (ds := [8]) #[F,F,F,F,F,F,F,F,F] (by kernel_rfl) rfl rfl ⟨(blk_cell BK211.out 0).trans rfl, (blk_cell BK211.out 1).trans rfl, (blk_cell BK211.out 2).trans rfl, hx215_0⟩ (fun hHeld => ?_); refine with_tabW decomp_Sum.tab19 decomp_Sum.bits19 (fun HT_ HW_ => ?_));(generalize w44.drew = w46 at HO_9 BK202 BK211 HB GG43 HQ47 hf43_0 hx214_0 hx215_0 hx43_0 hHeld ⊢);(refine pure_ (i := 0) (N := some 61) (v := ?_) (a' := ?_) #[T,F,F,F,F,F,F,F,F] rfl rfl (any_of HT_.out (by kernel_rfl)) (fun _ _ _ h => h) (Or.inl ⟨by rfl, ?_⟩) ?_ ?_)); rotate_left; (·intro w'; go_simp; with_reducible rfl); rotate_left; (·(simp only [Act.put, sA_, sZ_, sS_, i64_w, i32_w]); rfl); (refine pure_ (i := 1) (N := some 62) (v := ?_) (a' := ?_) #[T,T,F,F,F,F,F,F,F] rfl rfl (any_of HT_.out (by kernel_rfl)) (fun _ _ _ h => h) (Or.inl ⟨by rfl, ?_⟩) ?_ ?_); rotate_left; (·intro w'; go_simp; with_reducible rfl); rotate_left; (·(simp only [Act.put, sA_, sZ_, sS_, i64_w, i32_w]); rfl); (refine pure_ (i := 2) (N := some 63) (v := ?_) (a' := ?_) #[T,T,T,F,F,F,F,F,F] rfl rfl (any_of HT_.out (by kernel_rfl)) (fun _ _ _ h => h) (Or.inl ⟨by rfl, ?_⟩) ?_ ?_); rotate_left; (·intro w'; go_simp; with_reducible rfl); rotate_left; (·(simp only [Act.put, sA_, sZ_, sS_, i64_w, i32_w]); rfl); (refine pure_ (i := 4) (N := some 65) (v := ?_) (a' := ?_) #[T,T,T,F,T,F,F,F,F] rfl rfl (any_of HT_.out (by kernel_rfl)) (fun _ _ _ h => h) (Or.inl ⟨by rfl, ?_⟩) ?_ ?_); rotate_left; (·intro w'; go_simp; with_reducible rfl); rotate_left; (·(simp only [Act.put, sA_, sZ_, sS_, i64_w, i32_w]); rfl); (refine take_ (i := 3) (N := some 64) (v := ?_) (a' := ?_) #[T,T,T,T,T,F,F,F,F] rfl rfl (take_ofW HT_.out HW_.out (by kernel_rfl)) (fun _ _ _ h => h) (Or.inl ⟨by rfl, ?_⟩) hHeld ?_ ?_); rotate_left; (·(rintro w' ⟨s0, s1, s2, s3⟩); go_simp; with_reducible rfl); rotate_left; (·(simp only [Act.put, sA_, sZ_, sS_, i64_w, i32_w]); rfl); (refine take_ (i := 5) (N := some 66) (v := ?_) (a' := ?_) #[T,T,T,T,T,T,F,F,F] rfl rfl (take_ofW HT_.out HW_.out (by kernel_rfl)) (fun _ _ _ h => h) (Or.inl ⟨by rfl, ?_⟩) hHeld ?_ ?_); rotate_left; (·(rintro w' ⟨s0, s1, s2, s3⟩); go_simp; with_reducible rfl); rotate_left; (·(simp only [Act.put, sA_, sZ_, sS_, i64_w, i32_w]); rfl); (refine pure_ (i := 6) (N := some 67) (v := ?_) (a' := ?_) #[T,T,T,T,T,T,T,F,F] rfl rfl (any_of HT_.out (by kernel_rfl)) (fun _ _ _ h => h) (Or.inl ⟨by rfl, ?_⟩) ?_ ?_); rotate_left; (·intro w'; go_simp; with_reducible rfl); rotate_left; (·(simp only [Act.put, sA_, sZ_, sS_, i64_w, i32_w]); rfl); (refine pure_ (i := 7) (N := some 68) (v := ?_) (a' := ?_) #[T,T,T,T,T,T,T,T,F] rfl rfl (any_of HT_.out (by kernel_rfl)) (fun _ _ _ h => h) (Or.inl ⟨by rfl, ?_⟩) ?_ ?_); rotate_left; (·intro w'; go_simp; with_reducible rfl); rotate_left; (·(simp only [Act.put, sA_, sZ_, sS_, i64_w, i32_w]); rfl); ((refine last_ (i := 8) (N := none) #[T,T,T,T,T,T,T,T,T] rfl rfl (one_of HT_.out (by kernel_rfl)) (by decide) (fun K hK => ?_));(refine skip_ (w1 := ?_) (by rfl) rfl ?_ ?_))
                      rotate_left; (·go_simp; rfl); ((refine hK.out _ _ ?_);(clear hK K);(refine done_ (done_of HT_.out (by kernel_rfl)) ?_))
                      try go_wp2
                      go_roundg k3
                      case measure => have := HK1.out; have := HK2.out; have := HK3.out; omega
                      case rel => exact ⟨(y216), (wrap64 (x43_3 + 1)), (by first | rfl | (simp; done) | (simp [*]; done)), H', ⟨by have := HK1.out; have := HK2.out; have := HK3.out; omega⟩, ⟨by (with_reducible repeat first | apply Kd.R_alloc | apply Kd.R_drewN | apply Kd.R_drew); exact HQ47.out⟩, ⟨by (with_reducible repeat first | refine blk_drewN ?_ _ | refine blk_drew ?_ | refine blk_alloc ?_ _); refine blk_far ?_ (by have h_ := Kd.R_ne HO_9.out BK202.out (by decide); intro e_; exact h_ (by rw [e_]; rfl)) _; (with_reducible repeat first | refine blk_drewN ?_ _ | refine blk_drew ?_ | refine blk_alloc ?_ _); exact BK202.out⟩, ⟨by (with_reducible repeat first | refine blk_drewN ?_ _ | refine blk_drew ?_ | refine blk_alloc ?_ _); refine blk_far ?_ (by have h_ := Kd.R_ne HO_9.out BK211.out (by decide); intro e_; exact h_ (by rw [e_]; rfl)) _; (with_reducible repeat first | refine blk_drewN ?_ _ | refine blk_drew ?_ | refine blk_alloc ?_ _); exact BK211.out⟩, ⟨by repeat (first | (with_reducible first | exact HB.out | apply below_alloc | apply pw_below_drewN | apply below_drew1 | refine below_set ?_ GB43.out | refine below_set ?_ GE202.out | refine below_set ?_ GE211.out) | exact HB.out)⟩⟩
                   ·(rw [if_neg c39] at H);(exact absurd H (by simp))
                  ·(rw [if_neg c38] at H);(exact absurd H (by simp))
                 ·(rw [if_neg c37] at H);(exact absurd H (by simp))
                ·(rw [if_neg c36] at H);(exact absurd H (by simp))
               ·(rw [if_neg c35] at H);(exact absurd H (by simp))
              ·(rw [if_neg c34] at H);(have c34b0 : decide (x43_3 < (((rd_T36 l1 x36_2).f1).length : Int)) = false := decide_eq_false c34);(clear c34)
               as_aux_lemma =>
                ((have H' := Aside0.mk H);(clear H)); (go_wp2); (go_roundg k3)
                case measure => have := HK1.out; have := HK2.out; have := HK3.out; omega
                case rel => exact ⟨(x9_3), (wrap64 (x36_2 + 1)), (by first | rfl | (simp; done) | (simp [*]; done)), H', ⟨by have := HK1.out; have := HK2.out; have := HK3.out; omega⟩, ⟨by (with_reducible repeat first | apply Kd.R_alloc | apply Kd.R_drewN | apply Kd.R_drew); exact HO_9.out⟩, ⟨by (with_reducible repeat first | refine blk_drewN ?_ _ | refine blk_drew ?_ | refine blk_alloc ?_ _); exact BK202.out⟩, ⟨by repeat (first | (with_reducible first | exact HB.out | apply below_alloc | apply pw_below_drewN | apply below_drew1 | refine below_set ?_ GE202.out | refine below_set ?_ GE211.out) | exact HB.out)⟩⟩
           ·(rw [if_neg c30] at H);(exact absurd H (by simp))
          ·(rw [if_neg c29] at H);(exact absurd H (by simp))
         ·(rw [if_neg c28] at H);(have c28b0 : decide (x36_2 < (l1.length : Int)) = false := decide_eq_false c28);(clear c28)
          as_aux_lemma =>
           ((simp only [Option.some.injEq, Prod.mk.injEq] at H);(obtain ⟨rfl, rfl⟩ := H)); (go_wp2); (go_ret2); (exact ⟨_, by first | rfl | (simp [errW_none, errW_some] <;> rfl) | (simp [*, errW_none, errW_some] <;> rfl), by (with_reducible repeat first | apply Kd.R_alloc | apply Kd.R_drewN | apply Kd.R_drew); exact HO_9.out, by repeat (first | (with_reducible first | exact HB.out | apply below_alloc | apply pw_below_drewN | apply below_drew1 | refine below_set ?_ GE202.out) | exact HB.out)⟩)
      ·(rw [if_neg c24] at H);(exact absurd H (by simp))
     ·(rw [if_neg c23] at H);(exact absurd H (by simp))
 ·rw [if_neg c4] at H
  (have c4b0 : (t203 == 0) = false := beq_eq_false_iff_ne.mpr c4); (have c4b1 : (t203 != 0) = true := bne_iff_ne.mpr c4)
  as_aux_lemma =>
   ((simp only [Option.some.injEq, Prod.mk.injEq] at H);(obtain ⟨rfl, rfl⟩ := H)); (go_enter Try.func15, Try.ntmps15); (go_wp2_with (first | ((with_reducible refine gate_dst (N := 2) rfl ?_); refine box_event ?hg (N := 2) ?hd (cs := #[.int .i64 a0_0, .int .i64 a0_1, .int .i64 a0_2, .slice A0_3 l0_3.length c0_3]) (t := 26) ?hr ?_; (case hd => rfl); (case hg => rfl); (case hr => first | (go_simp; done) | (go_simp; rfl)); intro gb202 hg w48 hbox hb; have n0_ := Aside0.mk (below_step (by repeat (first | (with_reducible first | exact HB.out | apply below_alloc | apply pw_below_drewN | apply below_drew1) | exact HB.out)) hb); have n1_ := Aside0.mk (hbox); have n2_ := Aside0.mk ((by rw [hg]; exact (below_size (by repeat (first | (with_reducible first | exact HB.out | apply below_alloc | apply pw_below_drewN | apply below_drew1) | exact HB.out))) : w.heap.size ≤ gb202)); have n3_ := Aside0.mk ((by rw [hg]; exact (below_size (by repeat (first | (with_reducible first | exact HB.out | apply below_alloc | apply pw_below_drewN | apply below_drew1) | exact HB.out))) : w.heap.size ≤ gb202)); clear HB; have HB := n0_; have BK202 := n1_; have GW202 := n2_; have GE202 := n3_; clear n0_ n1_ n2_ n3_; clear hb hbox hg; have hcz49_0 : w48.cell? ⟨gb202, 0, none⟩ = some (.int .i64 a0_0) := (blk_cell BK202.out 0).trans rfl; have hcz49_1 : w48.cell? ⟨gb202, 1, none⟩ = some (.int .i64 a0_1) := (blk_cell BK202.out 1).trans rfl; have hcz49_2 : w48.cell? ⟨gb202, 2, none⟩ = some (.int .i64 a0_2) := (blk_cell BK202.out 2).trans rfl; have hcz49_3 : w48.cell? ⟨gb202, 3, none⟩ = some (.slice A0_3 l0_3.length c0_3) := (blk_cell BK202.out 3).trans rfl; have hfz49_0 := blk_frozen BK202.out 0; have hfz49_1 := blk_frozen BK202.out 1; have hfz49_2 := blk_frozen BK202.out 2; have hfz49_3 := blk_frozen BK202.out 3) | ((with_reducible refine gate_callee (f := 25) rfl ?_); refine goesL_ (some 15) rfl rfl Try.func25 (by kernel_rfl) rfl #[.agg #[.int .i64 a0_0, .int .i64 a0_1, .int .i64 a0_2, .slice A0_3 l0_3.length c0_3]] rfl (by (try simp only [List.map_toArray, List.map_cons, List.map_nil]); first | done | rfl | (simp only [List.length_drop, List.length_take]; rfl)) ?_; (with_reducible refine (net_Check.calls a0_0 a0_1 a0_2 _ _ l0_3 t203 _ ?side1 ?side2 A3.out).mono ?_); (case side1 => repeat (first | exact (Kd.C_below HR0_3.out HB.out) | (with_reducible refine Kd.C_alloc ?_ _) | (with_reducible refine Kd.C_drewN ?_ _) | (with_reducible refine Kd.C_drew ?_))); (case side2 => exact HC0_3.out); rintro e w50 ⟨rfl, hb⟩; refine ⟨_, rfl, ?_⟩; have n0_ := Aside0.mk (blk_below (g := gb202) (o := .cells #[.int .i64 a0_0, .int .i64 a0_1, .int .i64 a0_2, .slice A0_3 l0_3.length c0_3] 26 (0, 0)) (by (with_reducible repeat first | refine blk_drewN ?_ _ | refine blk_drew ?_ | refine blk_alloc ?_ _); exact BK202.out) hb); have n1_ := Aside0.mk (below_step (by repeat (first | (with_reducible first | exact HB.out | apply below_alloc | apply pw_below_drewN | apply below_drew1 | refine below_set ?_ GE202.out) | exact HB.out)) hb); clear BK202; clear HB; have BK202 := n0_; have HB := n1_; clear n0_ n1_; (try clear hb); (try clear hb2); (try clear hk); (try clear hi)))); (go_ret2); (exact ⟨_, by first | rfl | (simp [errW_none, errW_some] <;> rfl) | (simp [*, errW_none, errW_some] <;> rfl), by first | exact Kd.R_nil _ _ _ _ _ | exact Kd.N_nil _ _ _ _ _ | exact Kd.V_nil _ _ _ _ _ | exact Kd.Q_nil _ _ _ _ _ | exact Kd.S_nil _ _ _ _ _, by repeat (first | (with_reducible first | exact HB.out | apply below_alloc | apply pw_below_drewN | apply below_drew1 | refine below_set ?_ GE202.out) | exact HB.out)⟩)
end Go.Proofs.Ytnjdjnoncoeffaa.PDecompOrder
