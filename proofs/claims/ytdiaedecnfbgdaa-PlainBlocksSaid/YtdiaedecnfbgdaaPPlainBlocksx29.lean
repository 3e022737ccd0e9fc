/- For the law PlainBlocks, for every input: printed by a program (wip/myprint), contracts by hand where it says MANUAL. -/
-- slim5
-- slim
import Derived.Test.YtdiaedecnfbgdaaPPlainBlocksx0
import Derived.Test.YtdiaedecnfbgdaaPPlainBlocksx5
import Derived.Test.YtdiaedecnfbgdaaPPlainBlocksx9
import Derived.Test.YtdiaedecnfbgdaaPPlainBlocksx28
namespace Go.Proofs.Ytdiaedecnfbgdaa.PPlainBlocks
open Go.RowKit Go.Proofs.YtdiaedecnfbgdaaW.PrintWords Go.Proofs.YtdiaedecnfbgdaaW.PrintLast Go.Proofs.YtdiaedecnfbgdaaW.PrintMore
attribute [local go_sem] max2_int min2_int max_two min_two max_three min_three max_four min_four
set_option linter.unusedVariables false
set_option linter.unusedSimpArgs false
/-! ### residual_Push: function 36 -/
mutual
def residual_Push.l0 : Nat → List Int → List Int → Int → Int → List Int → Int → Int → Int → Int → Int → List (S30) → Option (List Int × Int)
 | 0, _, _, _, _, _, _, _, _, _, _, _ => none
 | k + 1, x1, x2, x3, x11, x28, x29, x30, x235000, x235001, x235002, x235003 => if x30 < x29 then (if 0 ≤ x30 then (if x30 < (x28.length : Int) then ((residual_Ends.f k x235000 x235001 x235002 x235003 (rd x28 x30)).bind fun bt237 => (if bt237.1 = x11 then (if bt237.2 = 0 then (some (([] : List Int), 1)) else (residual_Push.l0 k x1 x2 x3 bt237.2 x28 x29 (wrap64 (x30 + 1)) x235000 x235001 x235002 x235003)) else (some (([] : List Int), 1)))) else (none)) else (none)) else (if (x2.length : Int) = 0 then (residual_Push.j1 k x1 x2 x3 true x235000 x235001 x235002 x235003) else (residual_Push.j1 k x1 x2 x3 (x11 != x235002) x235000 x235001 x235002 x235003))
def residual_Push.j1 : Nat → List Int → List Int → Int → Bool → Int → Int → Int → List (S30) → Option (List Int × Int)
 | 0, _, _, _, _, _, _, _, _ => none
 | k + 1, x1, x2, x3, x49, x235000, x235001, x235002, x235003 => if x49 = true then (some (([] : List Int), 1)) else (if x3 < 1 then (some (([] : List Int), 3)) else ((clone64.f x1).bind fun t239 => (residual_Push.l1 k t239 x3 x2 (x2.length : Int) 0 x235000 x235001 x235002 x235003)))
def residual_Push.l1 : Nat → List Int → Int → List Int → Int → Int → Int → Int → Int → List (S30) → Option (List Int × Int)
 | 0, _, _, _, _, _, _, _, _, _ => none
 | k + 1, x1, x3, x64, x65, x66, x235000, x235001, x235002, x235003 => if x66 < x65 then (if 0 ≤ x66 then (if x66 < (x64.length : Int) then (if (Go.bits .and .i64 (rd x64 x66) 1) = 1 then (if 0 ≤ (wrap64 (Int.tdiv (rd x64 x66) 2)) then (if (wrap64 (Int.tdiv (rd x64 x66) 2)) < (x1.length : Int) then (if (wrap64 (Int.tdiv (rd x64 x66) 2)) < (x235003.length : Int) then (if (rd x1 (wrap64 (Int.tdiv (rd x64 x66) 2))) > (wrap64 (((rd_T30 x235003 (wrap64 (Int.tdiv (rd x64 x66) 2))).f2) - (wrap64 (-x3)))) then (some (([] : List Int), 9)) else (if (rd x1 (wrap64 (Int.tdiv (rd x64 x66) 2))) < (wrap64 (-(wrap64 (-x3)))) then (some (([] : List Int), 9)) else (residual_Push.l1 k (x1.set ((wrap64 (Int.tdiv (rd x64 x66) 2)) : Int).toNat (wrap64 ((rd x1 (wrap64 (Int.tdiv (rd x64 x66) 2))) + (wrap64 (-x3))))) x3 x64 x65 (wrap64 (x66 + 1)) x235000 x235001 x235002 x235003))) else (none)) else (none)) else (none)) else (if 0 ≤ (wrap64 (Int.tdiv (rd x64 x66) 2)) then (if (wrap64 (Int.tdiv (rd x64 x66) 2)) < (x1.length : Int) then (if (wrap64 (Int.tdiv (rd x64 x66) 2)) < (x235003.length : Int) then (if (rd x1 (wrap64 (Int.tdiv (rd x64 x66) 2))) > (wrap64 (((rd_T30 x235003 (wrap64 (Int.tdiv (rd x64 x66) 2))).f2) - x3)) then (some (([] : List Int), 9)) else (if (rd x1 (wrap64 (Int.tdiv (rd x64 x66) 2))) < (wrap64 (-x3)) then (some (([] : List Int), 9)) else (residual_Push.l1 k (x1.set ((wrap64 (Int.tdiv (rd x64 x66) 2)) : Int).toNat (wrap64 ((rd x1 (wrap64 (Int.tdiv (rd x64 x66) 2))) + x3))) x3 x64 x65 (wrap64 (x66 + 1)) x235000 x235001 x235002 x235003))) else (none)) else (none)) else (none))) else (none)) else (none)) else (some (x1, 0))
end
def residual_Push.f (k : Nat) (a0_0 : Int) (a0_1 : Int) (a0_2 : Int) (l0_3 : List (S30)) (l1 : List Int) (l2 : List Int) (a3 : Int) : Option (List Int × Int) := (flow_Check.f k a0_0 a0_1 a0_2 l0_3 l1).bind fun t235 => (if t235 = 0 then (residual_Push.l0 k l1 l2 a3 a0_1 l2 (l2.length : Int) 0 a0_0 a0_1 a0_2 l0_3) else (some (([] : List Int), t235)))
theorem residual_Push.mono_l : ∀ k, (∀ y0 y1 y2 y3 y4 y5 y6 y7 y8 y9 y10, LeO (residual_Push.l0 k y0 y1 y2 y3 y4 y5 y6 y7 y8 y9 y10) (residual_Push.l0 (k + 1) y0 y1 y2 y3 y4 y5 y6 y7 y8 y9 y10)) ∧ (∀ y0 y1 y2 y3 y4 y5 y6 y7, LeO (residual_Push.j1 k y0 y1 y2 y3 y4 y5 y6 y7) (residual_Push.j1 (k + 1) y0 y1 y2 y3 y4 y5 y6 y7)) ∧ (∀ y0 y1 y2 y3 y4 y5 y6 y7 y8, LeO (residual_Push.l1 k y0 y1 y2 y3 y4 y5 y6 y7 y8) (residual_Push.l1 (k + 1) y0 y1 y2 y3 y4 y5 y6 y7 y8))
 | 0 => ⟨fun _ _ _ _ _ _ _ _ _ _ _ r h => by simp [residual_Push.l0] at h, fun _ _ _ _ _ _ _ _ r h => by simp [residual_Push.j1] at h, fun _ _ _ _ _ _ _ _ _ r h => by simp [residual_Push.l1] at h⟩
 | k + 1 => by
  (obtain ⟨ih0, ih1, ih2⟩ := residual_Push.mono_l k); (refine ⟨?_, ?_, ?_⟩)
  ·intro y0 y1 y2 y3 y4 y5 y6 y7 y8 y9 y10
   unfold residual_Push.l0
   repeat' first
   | (with_reducible exact ih0 _ _ _ _ _ _ _ _ _ _ _)
   | (with_reducible exact ih1 _ _ _ _ _ _ _ _)
   | (with_reducible exact ih2 _ _ _ _ _ _ _ _ _)
   | (with_reducible exact flow_Check.mono _ _ _ _ _ _)
   | (with_reducible exact residual_Ends.mono _ _ _ _ _ _)
   | (with_reducible exact LeO.refl _)
   | (with_reducible exact LeO.none _)
   | (with_reducible refine LeO.ite ?_ ?_)
   | (with_reducible refine LeO.bind ?_ (fun _ => ?_))
   | exact ih0 _ _ _ _ _ _ _ _ _ _ _
   | exact ih1 _ _ _ _ _ _ _ _
   | exact ih2 _ _ _ _ _ _ _ _ _
   | exact flow_Check.mono _ _ _ _ _ _
   | exact residual_Ends.mono _ _ _ _ _ _
   | exact LeO.none _
   | refine LeO.ite ?_ ?_
   | refine LeO.bind ?_ (fun _ => ?_)
  ·intro y0 y1 y2 y3 y4 y5 y6 y7
   unfold residual_Push.j1
   repeat' first
   | (with_reducible exact ih0 _ _ _ _ _ _ _ _ _ _ _)
   | (with_reducible exact ih1 _ _ _ _ _ _ _ _)
   | (with_reducible exact ih2 _ _ _ _ _ _ _ _ _)
   | (with_reducible exact flow_Check.mono _ _ _ _ _ _)
   | (with_reducible exact residual_Ends.mono _ _ _ _ _ _)
   | (with_reducible exact LeO.refl _)
   | (with_reducible exact LeO.none _)
   | (with_reducible refine LeO.ite ?_ ?_)
   | (with_reducible refine LeO.bind ?_ (fun _ => ?_))
   | exact ih0 _ _ _ _ _ _ _ _ _ _ _
   | exact ih1 _ _ _ _ _ _ _ _
   | exact ih2 _ _ _ _ _ _ _ _ _
   | exact flow_Check.mono _ _ _ _ _ _
   | exact residual_Ends.mono _ _ _ _ _ _
   | exact LeO.none _
   | refine LeO.ite ?_ ?_
   | refine LeO.bind ?_ (fun _ => ?_)
  ·intro y0 y1 y2 y3 y4 y5 y6 y7 y8
   unfold residual_Push.l1
   repeat' first
   | (with_reducible exact ih0 _ _ _ _ _ _ _ _ _ _ _)
   | (with_reducible exact ih1 _ _ _ _ _ _ _ _)
   | (with_reducible exact ih2 _ _ _ _ _ _ _ _ _)
   | (with_reducible exact flow_Check.mono _ _ _ _ _ _)
   | (with_reducible exact residual_Ends.mono _ _ _ _ _ _)
   | (with_reducible exact LeO.refl _)
   | (with_reducible exact LeO.none _)
   | (with_reducible refine LeO.ite ?_ ?_)
   | (with_reducible refine LeO.bind ?_ (fun _ => ?_))
   | exact ih0 _ _ _ _ _ _ _ _ _ _ _
   | exact ih1 _ _ _ _ _ _ _ _
   | exact ih2 _ _ _ _ _ _ _ _ _
   | exact flow_Check.mono _ _ _ _ _ _
   | exact residual_Ends.mono _ _ _ _ _ _
   | exact LeO.none _
   | refine LeO.ite ?_ ?_
   | refine LeO.bind ?_ (fun _ => ?_)
theorem residual_Push.mono : ∀ a0 a1 a2 a3 a4 a5 a6 k, LeO (residual_Push.f k a0 a1 a2 a3 a4 a5 a6) (residual_Push.f (k + 1) a0 a1 a2 a3 a4 a5 a6) := by
 intro a0 a1 a2 a3 a4 a5 a6 k; (obtain ⟨ih0, ih1, ih2⟩ := residual_Push.mono_l k); (unfold residual_Push.f)
 repeat' first
   | (with_reducible exact ih0 _ _ _ _ _ _ _ _ _ _ _)
   | (with_reducible exact ih1 _ _ _ _ _ _ _ _)
   | (with_reducible exact ih2 _ _ _ _ _ _ _ _ _)
   | (with_reducible exact flow_Check.mono _ _ _ _ _ _)
   | (with_reducible exact residual_Ends.mono _ _ _ _ _ _)
   | (with_reducible exact LeO.refl _)
   | (with_reducible exact LeO.none _)
   | (with_reducible refine LeO.ite ?_ ?_)
   | (with_reducible refine LeO.bind ?_ (fun _ => ?_))
   | exact ih0 _ _ _ _ _ _ _ _ _ _ _
   | exact ih1 _ _ _ _ _ _ _ _
   | exact ih2 _ _ _ _ _ _ _ _ _
   | exact flow_Check.mono _ _ _ _ _ _
   | exact residual_Ends.mono _ _ _ _ _ _
   | exact LeO.none _
   | refine LeO.ite ?_ ?_
   | refine LeO.bind ?_ (fun _ => ?_)
set_option maxHeartbeats 8000000 in
set_option maxRecDepth 100000 in
theorem residual_Push.calls (k : Nat) (a0_0 : Int) (a0_1 : Int) (a0_2 : Int) (A0_3 : Option Addr) (c0_3 : Nat) (l0_3 : List (S30)) (A1 : Option Addr) (c1 : Nat) (l1 : List Int) (A2 : Option Addr) (c2 : Nat) (l2 : List Int) (a3 : Int) (r1 : List Int) (r2 : Int) (w : World) (hr0_3 : Kd.C k30 w A0_3 l0_3.length l0_3) (hc0_3 : l0_3.length ≤ c0_3) (hr1 : Kd.C (Kd.int .i64) w A1 l1.length l1) (hc1 : l1.length ≤ c1) (hr2 : Kd.C (Kd.int .i64) w A2 l2.length l2) (hc2 : l2.length ≤ c2) (h : residual_Push.f k a0_0 a0_1 a0_2 l0_3 l1 l2 a3 = some (r1, r2)) :
  Calls Try.prog 36 #[.agg #[.int .i64 a0_0, .int .i64 a0_1, .int .i64 a0_2, .slice A0_3 l0_3.length c0_3], .slice A1 l1.length c1, .slice A2 l2.length c2, .int .i64 a3] w fun e w' => ∃ v0_ : Value, e = .returned (.tuple #[v0_, .int .i64 r2]) ∧ Kd.R (Kd.int .i64) 2 w' w.heap.size (fun _ => True) v0_ r1 ∧ Below w.heap.size w w' := by
 (have hu26 := Try.underlying26); (have HR0_3 := Aside0.mk hr0_3); (have HC0_3 := Aside0.mk hc0_3); clear hr0_3 hc0_3; (have HR1 := Aside0.mk hr1); (have HC1 := Aside0.mk hc1); clear hr1 hc1; (have HR2 := Aside0.mk hr2); (have HC2 := Aside0.mk hc2); clear hr2 hc2; (have HB := Aside0.mk (Below.refl w.heap.size w)); (have H : ((flow_Check.f k a0_0 a0_1 a0_2 l0_3 l1).bind fun t235 => (if t235 = 0 then (residual_Push.l0 k l1 l2 a3 a0_1 l2 (l2.length : Int) 0 a0_0 a0_1 a0_2 l0_3) else (some (([] : List Int), t235)))) = some (r1, r2) := h); clear h; (replace H := Option.bind_eq_some_iff.mp H); (obtain ⟨t235, A50, H⟩ := H); (replace H : (if t235 = 0 then (residual_Push.l0 k l1 l2 a3 a0_1 l2 (l2.length : Int) 0 a0_0 a0_1 a0_2 l0_3) else (some (([] : List Int), t235))) = some (r1, r2) := H); (have A5 := Aside0.mk A50); clear A50; (by_cases c6 : t235 = 0)
 ·rw [if_pos c6] at H
  (have c6b0 : (t235 == 0) = true := beq_iff_eq.mpr c6); (have c6b1 : (t235 != 0) = false := bne_eq_false_iff_eq.mpr c6); clear c6; (have H' := Aside0.mk H); clear H; (go_enter Try.func36, Try.ntmps36); (go_wp2_with (first | ((with_reducible refine gate_dst (N := 4) rfl ?_); refine box_event ?hg (N := 4) ?hd (cs := #[.int .i64 a0_0, .int .i64 a0_1, .int .i64 a0_2, .slice A0_3 l0_3.length c0_3]) (t := 26) ?hr ?_; (case hd => rfl); (case hg => rfl); (case hr => first | (go_simp; done) | (go_simp; rfl)); intro gb234 hg w7 hbox hb; have n0_ := Aside0.mk (below_step (by repeat (first | (with_reducible first | exact HB.out | apply below_alloc | apply pw_below_drewN | apply below_drew1) | exact HB.out)) hb); have n1_ := Aside0.mk (hbox); have n2_ := Aside0.mk ((by rw [hg]; exact (below_size (by repeat (first | (with_reducible first | exact HB.out | apply below_alloc | apply pw_below_drewN | apply below_drew1) | exact HB.out))) : w.heap.size ≤ gb234)); have n3_ := Aside0.mk ((by rw [hg]; exact (below_size (by repeat (first | (with_reducible first | exact HB.out | apply below_alloc | apply pw_below_drewN | apply below_drew1) | exact HB.out))) : w.heap.size ≤ gb234)); clear HB; have HB := n0_; have BK234 := n1_; have GW234 := n2_; have GE234 := n3_; clear n0_ n1_ n2_ n3_; clear hb hbox hg; have hcz8_0 : w7.cell? ⟨gb234, 0, none⟩ = some (.int .i64 a0_0) := (blk_cell BK234.out 0).trans rfl; have hcz8_1 : w7.cell? ⟨gb234, 1, none⟩ = some (.int .i64 a0_1) := (blk_cell BK234.out 1).trans rfl; have hcz8_2 : w7.cell? ⟨gb234, 2, none⟩ = some (.int .i64 a0_2) := (blk_cell BK234.out 2).trans rfl; have hcz8_3 : w7.cell? ⟨gb234, 3, none⟩ = some (.slice A0_3 l0_3.length c0_3) := (blk_cell BK234.out 3).trans rfl; have hfz8_0 := blk_frozen BK234.out 0; have hfz8_1 := blk_frozen BK234.out 1; have hfz8_2 := blk_frozen BK234.out 2; have hfz8_3 := blk_frozen BK234.out 3) | (go_at_call 34; (with_reducible refine (flow_Check.calls k a0_0 a0_1 a0_2 _ _ l0_3 _ _ l1 t235 _ ?side1 ?side2 ?side3 ?side4 A5.out).mono ?_); (case side1 => repeat (first | exact (Kd.C_below HR0_3.out HB.out) | (with_reducible refine Kd.C_alloc ?_ _) | (with_reducible refine Kd.C_drewN ?_ _) | (with_reducible refine Kd.C_drew ?_))); (case side2 => exact HC0_3.out); (case side3 => repeat (first | exact (Kd.C_below HR1.out HB.out) | (with_reducible refine Kd.C_alloc ?_ _) | (with_reducible refine Kd.C_drewN ?_ _) | (with_reducible refine Kd.C_drew ?_))); (case side4 => exact HC1.out); rintro e w9 ⟨rfl, hb⟩; have n0_ := Aside0.mk (blk_below (g := gb234) (o := .cells #[.int .i64 a0_0, .int .i64 a0_1, .int .i64 a0_2, .slice A0_3 l0_3.length c0_3] 26 (0, 0)) (by (with_reducible repeat first | refine blk_drewN ?_ _ | refine blk_drew ?_ | refine blk_alloc ?_ _); exact BK234.out) hb); have n1_ := Aside0.mk (below_step (by repeat (first | (with_reducible first | exact HB.out | apply below_alloc | apply pw_below_drewN | apply below_drew1 | refine below_set ?_ GE234.out) | exact HB.out)) hb); clear BK234; clear HB; have BK234 := n0_; have HB := n1_; clear n0_ n1_; (try clear hb); have hcz10_0 : w9.cell? ⟨gb234, 0, none⟩ = some (.int .i64 a0_0) := (blk_cell BK234.out 0).trans rfl; have hcz10_1 : w9.cell? ⟨gb234, 1, none⟩ = some (.int .i64 a0_1) := (blk_cell BK234.out 1).trans rfl; have hcz10_2 : w9.cell? ⟨gb234, 2, none⟩ = some (.int .i64 a0_2) := (blk_cell BK234.out 2).trans rfl; have hcz10_3 : w9.cell? ⟨gb234, 3, none⟩ = some (.slice A0_3 l0_3.length c0_3) := (blk_cell BK234.out 3).trans rfl; have hfz10_0 := blk_frozen BK234.out 0; have hfz10_1 := blk_frozen BK234.out 1; have hfz10_2 := blk_frozen BK234.out 2; have hfz10_3 := blk_frozen BK234.out 3))); (go_loopg [11, 30] k (fun kq v11 v30 w' => ∃ (x11_1 : Int) (x30_1 : Int), v11 = .int .i64 x11_1 ∧ v30 = .int .i64 x30_1 ∧ Aside0 (residual_Push.l0 kq l1 l2 a3 x11_1 l2 (l2.length : Int) x30_1 a0_0 a0_1 a0_2 l0_3 = some (r1, r2)) ∧ Aside0 (kq ≤ k) ∧ Aside0 (w'.heap[gb234]? = some (.cells #[.int .i64 a0_0, .int .i64 a0_1, .int .i64 a0_2, (.slice A0_3 l0_3.length c0_3)] 26 (0, 0))) ∧ Aside0 (Below w.heap.size w w')))
  case atStart => exact ⟨(a0_1), (0), (by first | rfl | (simp; done) | (simp [*]; done)), (by first | rfl | (simp; done) | (simp [*]; done)), H', ⟨Nat.le_refl _⟩, ⟨by (with_reducible repeat first | refine blk_drewN ?_ _ | refine blk_drew ?_ | refine blk_alloc ?_ _); exact BK234.out⟩, ⟨by repeat (first | (with_reducible first | exact HB.out | apply below_alloc | apply pw_below_drewN | apply below_drew1 | refine below_set ?_ GE234.out) | exact HB.out)⟩⟩
  case round =>
   clear H'
   try clear c1
   try clear c2
   try clear p2
   try clear c3
   try clear c6
   try clear c6b0
   try clear c6b1
   try clear hcz10_0
   try clear hcz10_1
   try clear hcz10_2
   try clear hcz10_3
   try clear hcz8_0
   try clear hcz8_1
   try clear hcz8_2
   try clear hcz8_3
   try clear hfz10_0
   try clear hfz10_1
   try clear hfz10_2
   try clear hfz10_3
   try clear hfz8_0
   try clear hfz8_1
   try clear hfz8_2
   try clear hfz8_3
   obtain ⟨x11_1, x30_1, rfl, rfl, HA, HK1, BK234, HB⟩ := hrel
   cases gk with
   | zero => exact absurd HA.out (by simp [residual_Push.l0])
   | succ k1 =>
    ((have H := HA.out);(clear HA);(simp only [residual_Push.l0] at H)); (by_cases c11 : x30_1 < (l2.length : Int))
    ·(rw [if_pos c11] at H);(have c11b0 : decide (x30_1 < (l2.length : Int)) = true := decide_eq_true c11);(clear c11)
     by_cases c12 : 0 ≤ x30_1
     ·(rw [if_pos c12] at H);(have c12b0 : decide (0 ≤ x30_1) = true := decide_eq_true c12);(clear c12)
      by_cases c13 : x30_1 < (l2.length : Int)
      ·(rw [if_pos c13] at H);(have c13b0 : decide (x30_1 < (l2.length : Int)) = true := decide_eq_true c13);(clear c13);(replace H := Option.bind_eq_some_iff.mp H);(obtain ⟨⟨t237, t238⟩, A140, H⟩ := H);(replace H : (if t237 = x11_1 then (if t238 = 0 then (some (([] : List Int), 1)) else (residual_Push.l0 k1 l1 l2 a3 t238 l2 (l2.length : Int) (wrap64 (x30_1 + 1)) a0_0 a0_1 a0_2 l0_3)) else (some (([] : List Int), 1))) = some (r1, r2) := H);(have A14 := Aside0.mk A140);(clear A140)
       by_cases c15 : t237 = x11_1
       ·(rw [if_pos c15] at H);(have c15b0 : (t237 == x11_1) = true := beq_iff_eq.mpr c15);(have c15b1 : (t237 != x11_1) = false := bne_eq_false_iff_eq.mpr c15);(clear c15)
        by_cases c16 : t238 = 0
        ·(rw [if_pos c16] at H);(have c16b0 : (t238 == 0) = true := beq_iff_eq.mpr c16);(have c16b1 : (t238 != 0) = false := bne_eq_false_iff_eq.mpr c16);(clear c16)
         as_aux_lemma =>
          ((simp only [Option.some.injEq, Prod.mk.injEq] at H);(obtain ⟨rfl, rfl⟩ := H);(have p236 : 0 ≤ (x30_1 : Int) := of_decide_eq_true (by first | (with_reducible assumption) | assumption));(have q236 : x30_1 < (l2.length : Int) := of_decide_eq_true (by first | (with_reducible assumption) | assumption));(obtain ⟨ad236, e236, hx236_0⟩ := Kd.at_int HR2.out x30_1 p236 q236);(cases e236);(replace hx236_0 := (HB.out.cell (World.block_lt_of_cell? w _ hx236_0)).trans hx236_0);(replace p236 := eq_true p236);(replace q236 := eq_true q236);(have hcz17_0 : wr.cell? ⟨gb234, 0, none⟩ = some (.int .i64 a0_0) := (blk_cell BK234.out 0).trans rfl);(have hcz17_1 : wr.cell? ⟨gb234, 1, none⟩ = some (.int .i64 a0_1) := (blk_cell BK234.out 1).trans rfl);(have hcz17_2 : wr.cell? ⟨gb234, 2, none⟩ = some (.int .i64 a0_2) := (blk_cell BK234.out 2).trans rfl);(have hcz17_3 : wr.cell? ⟨gb234, 3, none⟩ = some (.slice A0_3 l0_3.length c0_3) := (blk_cell BK234.out 3).trans rfl);(have hfz17_0 := blk_frozen BK234.out 0);(have hfz17_1 := blk_frozen BK234.out 1);(have hfz17_2 := blk_frozen BK234.out 2);(have hfz17_3 := blk_frozen BK234.out 3)); (go_wp2_with (first | (go_at_call 49; (with_reducible refine (residual_Ends.calls k1 a0_0 a0_1 a0_2 _ _ l0_3 (rd l2 x30_1) t237 t238 _ ?side1 ?side2 A14.out).mono ?_); (case side1 => repeat (first | exact (Kd.C_below HR0_3.out HB.out) | (with_reducible refine Kd.C_alloc ?_ _) | (with_reducible refine Kd.C_drewN ?_ _) | (with_reducible refine Kd.C_drew ?_))); (case side2 => exact HC0_3.out); rintro e w18 ⟨rfl, hb⟩; have n0_ := Aside0.mk (blk_below (g := gb234) (o := .cells #[.int .i64 a0_0, .int .i64 a0_1, .int .i64 a0_2, .slice A0_3 l0_3.length c0_3] 26 (0, 0)) (by (with_reducible repeat first | refine blk_drewN ?_ _ | refine blk_drew ?_ | refine blk_alloc ?_ _); exact BK234.out) hb); have n1_ := Aside0.mk (below_step (by repeat (first | (with_reducible first | exact HB.out | apply below_alloc | apply pw_below_drewN | apply below_drew1 | refine below_set ?_ GE234.out) | exact HB.out)) hb); clear BK234; clear HB; have BK234 := n0_; have HB := n1_; clear n0_ n1_; (try clear hb)))); (go_ret2); (exact ⟨_, by first | rfl | (simp [errW_none, errW_some] <;> rfl) | (simp [*, errW_none, errW_some] <;> rfl), by first | exact Kd.R_nil _ _ _ _ _ | exact Kd.N_nil _ _ _ _ _ | exact Kd.V_nil _ _ _ _ _ | exact Kd.Q_nil _ _ _ _ _ | exact Kd.S_nil _ _ _ _ _, by repeat (first | (with_reducible first | exact HB.out | apply below_alloc | apply pw_below_drewN | apply below_drew1 | refine below_set ?_ GE234.out) | exact HB.out)⟩)
        ·(rw [if_neg c16] at H);(have c16b0 : (t238 == 0) = false := beq_eq_false_iff_ne.mpr c16);(have c16b1 : (t238 != 0) = true := bne_iff_ne.mpr c16)
         as_aux_lemma =>
          ((have H' := Aside0.mk H);(clear H);(have p236 : 0 ≤ (x30_1 : Int) := of_decide_eq_true (by first | (with_reducible assumption) | assumption));(have q236 : x30_1 < (l2.length : Int) := of_decide_eq_true (by first | (with_reducible assumption) | assumption));(obtain ⟨ad236, e236, hx236_0⟩ := Kd.at_int HR2.out x30_1 p236 q236);(cases e236);(replace hx236_0 := (HB.out.cell (World.block_lt_of_cell? w _ hx236_0)).trans hx236_0);(replace p236 := eq_true p236);(replace q236 := eq_true q236);(have hcz19_0 : wr.cell? ⟨gb234, 0, none⟩ = some (.int .i64 a0_0) := (blk_cell BK234.out 0).trans rfl);(have hcz19_1 : wr.cell? ⟨gb234, 1, none⟩ = some (.int .i64 a0_1) := (blk_cell BK234.out 1).trans rfl);(have hcz19_2 : wr.cell? ⟨gb234, 2, none⟩ = some (.int .i64 a0_2) := (blk_cell BK234.out 2).trans rfl);(have hcz19_3 : wr.cell? ⟨gb234, 3, none⟩ = some (.slice A0_3 l0_3.length c0_3) := (blk_cell BK234.out 3).trans rfl);(have hfz19_0 := blk_frozen BK234.out 0);(have hfz19_1 := blk_frozen BK234.out 1);(have hfz19_2 := blk_frozen BK234.out 2);(have hfz19_3 := blk_frozen BK234.out 3)); (go_wp2_with (first | (go_at_call 49; (with_reducible refine (residual_Ends.calls k1 a0_0 a0_1 a0_2 _ _ l0_3 (rd l2 x30_1) t237 t238 _ ?side1 ?side2 A14.out).mono ?_); (case side1 => repeat (first | exact (Kd.C_below HR0_3.out HB.out) | (with_reducible refine Kd.C_alloc ?_ _) | (with_reducible refine Kd.C_drewN ?_ _) | (with_reducible refine Kd.C_drew ?_))); (case side2 => exact HC0_3.out); rintro e w20 ⟨rfl, hb⟩; have n0_ := Aside0.mk (blk_below (g := gb234) (o := .cells #[.int .i64 a0_0, .int .i64 a0_1, .int .i64 a0_2, .slice A0_3 l0_3.length c0_3] 26 (0, 0)) (by (with_reducible repeat first | refine blk_drewN ?_ _ | refine blk_drew ?_ | refine blk_alloc ?_ _); exact BK234.out) hb); have n1_ := Aside0.mk (below_step (by repeat (first | (with_reducible first | exact HB.out | apply below_alloc | apply pw_below_drewN | apply below_drew1 | refine below_set ?_ GE234.out) | exact HB.out)) hb); clear BK234; clear HB; have BK234 := n0_; have HB := n1_; clear n0_ n1_; (try clear hb)))); (go_roundg k1)
          case measure => have := HK1.out; omega
          case rel => exact ⟨(t238), (wrap64 (x30_1 + 1)), (by first | rfl | (simp; done) | (simp [*]; done)), (by first | rfl | (simp; done) | (simp [*]; done)), H', ⟨by have := HK1.out; omega⟩, ⟨by (with_reducible repeat first | refine blk_drewN ?_ _ | refine blk_drew ?_ | refine blk_alloc ?_ _); exact BK234.out⟩, ⟨by repeat (first | (with_reducible first | exact HB.out | apply below_alloc | apply pw_below_drewN | apply below_drew1 | refine below_set ?_ GE234.out) | exact HB.out)⟩⟩
       ·(rw [if_neg c15] at H);(have c15b0 : (t237 == x11_1) = false := beq_eq_false_iff_ne.mpr c15);(have c15b1 : (t237 != x11_1) = true := bne_iff_ne.mpr c15)
        as_aux_lemma =>
         ((simp only [Option.some.injEq, Prod.mk.injEq] at H);(obtain ⟨rfl, rfl⟩ := H);(have p236 : 0 ≤ (x30_1 : Int) := of_decide_eq_true (by first | (with_reducible assumption) | assumption));(have q236 : x30_1 < (l2.length : Int) := of_decide_eq_true (by first | (with_reducible assumption) | assumption));(obtain ⟨ad236, e236, hx236_0⟩ := Kd.at_int HR2.out x30_1 p236 q236);(cases e236);(replace hx236_0 := (HB.out.cell (World.block_lt_of_cell? w _ hx236_0)).trans hx236_0);(replace p236 := eq_true p236);(replace q236 := eq_true q236);(have hcz21_0 : wr.cell? ⟨gb234, 0, none⟩ = some (.int .i64 a0_0) := (blk_cell BK234.out 0).trans rfl);(have hcz21_1 : wr.cell? ⟨gb234, 1, none⟩ = some (.int .i64 a0_1) := (blk_cell BK234.out 1).trans rfl);(have hcz21_2 : wr.cell? ⟨gb234, 2, none⟩ = some (.int .i64 a0_2) := (blk_cell BK234.out 2).trans rfl);(have hcz21_3 : wr.cell? ⟨gb234, 3, none⟩ = some (.slice A0_3 l0_3.length c0_3) := (blk_cell BK234.out 3).trans rfl);(have hfz21_0 := blk_frozen BK234.out 0);(have hfz21_1 := blk_frozen BK234.out 1);(have hfz21_2 := blk_frozen BK234.out 2);(have hfz21_3 := blk_frozen BK234.out 3)); (go_wp2_with (first | (go_at_call 49; (with_reducible refine (residual_Ends.calls k1 a0_0 a0_1 a0_2 _ _ l0_3 (rd l2 x30_1) t237 t238 _ ?side1 ?side2 A14.out).mono ?_); (case side1 => repeat (first | exact (Kd.C_below HR0_3.out HB.out) | (with_reducible refine Kd.C_alloc ?_ _) | (with_reducible refine Kd.C_drewN ?_ _) | (with_reducible refine Kd.C_drew ?_))); (case side2 => exact HC0_3.out); rintro e w22 ⟨rfl, hb⟩; have n0_ := Aside0.mk (blk_below (g := gb234) (o := .cells #[.int .i64 a0_0, .int .i64 a0_1, .int .i64 a0_2, .slice A0_3 l0_3.length c0_3] 26 (0, 0)) (by (with_reducible repeat first | refine blk_drewN ?_ _ | refine blk_drew ?_ | refine blk_alloc ?_ _); exact BK234.out) hb); have n1_ := Aside0.mk (below_step (by repeat (first | (with_reducible first | exact HB.out | apply below_alloc | apply pw_below_drewN | apply below_drew1 | refine below_set ?_ GE234.out) | exact HB.out)) hb); clear BK234; clear HB; have BK234 := n0_; have HB := n1_; clear n0_ n1_; (try clear hb)))); (go_ret2); (exact ⟨_, by first | rfl | (simp [errW_none, errW_some] <;> rfl) | (simp [*, errW_none, errW_some] <;> rfl), by first | exact Kd.R_nil _ _ _ _ _ | exact Kd.N_nil _ _ _ _ _ | exact Kd.V_nil _ _ _ _ _ | exact Kd.Q_nil _ _ _ _ _ | exact Kd.S_nil _ _ _ _ _, by repeat (first | (with_reducible first | exact HB.out | apply below_alloc | apply pw_below_drewN | apply below_drew1 | refine below_set ?_ GE234.out) | exact HB.out)⟩)
      ·(rw [if_neg c13] at H);(exact absurd H (by simp))
     ·(rw [if_neg c12] at H);(exact absurd H (by simp))
    ·(rw [if_neg c11] at H);(have c11b0 : decide (x30_1 < (l2.length : Int)) = false := decide_eq_false c11);(clear c11);(have HC23 := Aside0.mk H);(clear H)
     (go_upto_region 13 with (fail)); (repeat (go_quiet (fail); go_upto_region 13 with (fail))); (go_cut [49] (fun v49 wc => ∃ (kq : Nat) (x49_22 : Bool), v49 = .bool x49_22 ∧ Aside0 (residual_Push.j1 kq l1 l2 a3 x49_22 a0_0 a0_1 a0_2 l0_3 = some (r1, r2)) ∧ Aside0 (kq ≤ k1) ∧ Aside0 (wc.heap[gb234]? = some (.cells #[.int .i64 a0_0, .int .i64 a0_1, .int .i64 a0_2, (.slice A0_3 l0_3.length c0_3)] 26 (0, 0))) ∧ Aside0 (Below w.heap.size w wc)))
     case first =>
      ((have H := HC23.out);(clear HC23)); (by_cases c24 : (l2.length : Int) = 0)
      ·(rw [if_pos c24] at H);(have c24b0 : ((l2.length : Int) == 0) = true := beq_iff_eq.mpr c24);(have c24b1 : ((l2.length : Int) != 0) = false := bne_eq_false_iff_eq.mpr c24);(clear c24);((first | rw [c24b0] | (simp only [i64_w, i32_w]; rw [c24b0]) | skip))
       as_aux_lemma =>
        ((have H' := Aside0.mk H);(clear H)); (go_wp2); (repeat (go_quiet (fail); try go_wp2)); (go_meet)
        case rel => exact ⟨_, (true), (by first | rfl | (simp; done) | (simp [*]; done)), H', ⟨by have := HK1.out; first | omega | exact Nat.le_refl _⟩, ⟨by (with_reducible repeat first | refine blk_drewN ?_ _ | refine blk_drew ?_ | refine blk_alloc ?_ _); exact BK234.out⟩, ⟨by repeat (first | (with_reducible first | exact HB.out | apply below_alloc | apply pw_below_drewN | apply below_drew1 | refine below_set ?_ GE234.out) | exact HB.out)⟩⟩
      ·(rw [if_neg c24] at H);(have c24b0 : ((l2.length : Int) == 0) = false := beq_eq_false_iff_ne.mpr c24);(have c24b1 : ((l2.length : Int) != 0) = true := bne_iff_ne.mpr c24);(have c24b2 : ¬ (l2 = []) := fun h_ => c24 (by rw [h_]; rfl));((first | rw [c24b0] | (simp only [i64_w, i32_w]; rw [c24b0]) | skip))
       as_aux_lemma =>
        ((have H' := Aside0.mk H);(clear H);(have hcz25_0 : wr.cell? ⟨gb234, 0, none⟩ = some (.int .i64 a0_0) := (blk_cell BK234.out 0).trans rfl);(have hcz25_1 : wr.cell? ⟨gb234, 1, none⟩ = some (.int .i64 a0_1) := (blk_cell BK234.out 1).trans rfl);(have hcz25_2 : wr.cell? ⟨gb234, 2, none⟩ = some (.int .i64 a0_2) := (blk_cell BK234.out 2).trans rfl);(have hcz25_3 : wr.cell? ⟨gb234, 3, none⟩ = some (.slice A0_3 l0_3.length c0_3) := (blk_cell BK234.out 3).trans rfl);(have hfz25_0 := blk_frozen BK234.out 0);(have hfz25_1 := blk_frozen BK234.out 1);(have hfz25_2 := blk_frozen BK234.out 2);(have hfz25_3 := blk_frozen BK234.out 3)); (go_wp2); (repeat (go_quiet (fail); try go_wp2)); (go_meet)
        case rel => exact ⟨_, ((x11_1 != a0_2)), (by first | rfl | (simp; done) | (simp [*]; done)), H', ⟨by have := HK1.out; first | omega | exact Nat.le_refl _⟩, ⟨by (with_reducible repeat first | refine blk_drewN ?_ _ | refine blk_drew ?_ | refine blk_alloc ?_ _); exact BK234.out⟩, ⟨by repeat (first | (with_reducible first | exact HB.out | apply below_alloc | apply pw_below_drewN | apply below_drew1 | refine below_set ?_ GE234.out) | exact HB.out)⟩⟩
     case rest =>
      clear HC23
      try clear c1
      try clear c2
      try clear p2
      try clear q2
      try clear hx2
      try clear c3
      try clear c6
      try clear c6b0
      try clear c6b1
      try clear p6
      try clear c11
      try clear c11b0
      try clear c12
      try clear c12b0
      try clear c13
      try clear c13b0
      try clear c15
      try clear c15b0
      try clear c15b1
      try clear c16
      try clear c16b0
      try clear c16b1
      try clear p23
      try clear q23
      try clear hx23
      try clear c24
      try clear c24b0
      try clear c24b1
      try clear c24b2
      try clear hcz10_0
      try clear hcz10_1
      try clear hcz10_2
      try clear hcz10_3
      try clear hcz17_0
      try clear hcz17_1
      try clear hcz17_2
      try clear hcz17_3
      try clear hcz19_0
      try clear hcz19_1
      try clear hcz19_2
      try clear hcz19_3
      try clear hcz21_0
      try clear hcz21_1
      try clear hcz21_2
      try clear hcz21_3
      try clear hcz25_0
      try clear hcz25_1
      try clear hcz25_2
      try clear hcz25_3
      try clear hcz8_0
      try clear hcz8_1
      try clear hcz8_2
      try clear hcz8_3
      try clear hfz10_0
      try clear hfz10_1
      try clear hfz10_2
      try clear hfz10_3
      try clear hfz17_0
      try clear hfz17_1
      try clear hfz17_2
      try clear hfz17_3
      try clear hfz19_0
      try clear hfz19_1
      try clear hfz19_2
      try clear hfz19_3
      try clear hfz21_0
      try clear hfz21_1
      try clear hfz21_2
      try clear hfz21_3
      try clear hfz25_0
      try clear hfz25_1
      try clear hfz25_2
      try clear hfz25_3
      try clear hfz8_0
      try clear hfz8_1
      try clear hfz8_2
      try clear hfz8_3
      try clear hx236_0
      try clear p2
      try clear p236
      try clear q236
      obtain ⟨kq, x49_22, rfl, HA, HJ22, BK234, HB⟩ := hcut
      cases kq with
      | zero => exact absurd HA.out (by simp [residual_Push.j1])
      | succ kj22 =>
       ((have H := HA.out);(clear HA);(simp only [residual_Push.j1] at H)); (by_cases c26 : x49_22 = true)
       ·(subst c26);(have H1 : (some (([] : List Int), 1)) = some (r1, r2) := by rw [if_pos rfl] at H; exact H);(clear H);(have H := H1);(clear H1)
        as_aux_lemma =>
         ((simp only [Option.some.injEq, Prod.mk.injEq] at H);(obtain ⟨rfl, rfl⟩ := H)); (go_wp2); (repeat (go_quiet (fail); try go_wp2)); (go_ret2); (exact ⟨_, by first | rfl | (simp [errW_none, errW_some] <;> rfl) | (simp [*, errW_none, errW_some] <;> rfl), by first | exact Kd.R_nil _ _ _ _ _ | exact Kd.N_nil _ _ _ _ _ | exact Kd.V_nil _ _ _ _ _ | exact Kd.Q_nil _ _ _ _ _ | exact Kd.S_nil _ _ _ _ _, by repeat (first | (with_reducible first | exact HB.out | apply below_alloc | apply pw_below_drewN | apply below_drew1 | refine below_set ?_ GE234.out) | exact HB.out)⟩)
       ·(replace c26 := Bool.eq_false_iff.mpr c26);(subst c26);(have H1 : (if a3 < 1 then (some (([] : List Int), 3)) else ((clone64.f l1).bind fun t239 => (residual_Push.l1 kj22 t239 a3 l2 (l2.length : Int) 0 a0_0 a0_1 a0_2 l0_3))) = some (r1, r2) := by rw [if_neg (show ¬ (false = true) by decide)] at H; exact H);(clear H);(have H := H1);(clear H1)
        by_cases c27 : a3 < 1
        ·(rw [if_pos c27] at H);(have c27b0 : decide (a3 < 1) = true := decide_eq_true c27);(clear c27)
         as_aux_lemma =>
          ((simp only [Option.some.injEq, Prod.mk.injEq] at H);(obtain ⟨rfl, rfl⟩ := H)); (go_wp2); (repeat (go_quiet (fail); try go_wp2)); (go_ret2); (exact ⟨_, by first | rfl | (simp [errW_none, errW_some] <;> rfl) | (simp [*, errW_none, errW_some] <;> rfl), by first | exact Kd.R_nil _ _ _ _ _ | exact Kd.N_nil _ _ _ _ _ | exact Kd.V_nil _ _ _ _ _ | exact Kd.Q_nil _ _ _ _ _ | exact Kd.S_nil _ _ _ _ _, by repeat (first | (with_reducible first | exact HB.out | apply below_alloc | apply pw_below_drewN | apply below_drew1 | refine below_set ?_ GE234.out) | exact HB.out)⟩)
        ·(rw [if_neg c27] at H);(have c27b0 : decide (a3 < 1) = false := decide_eq_false c27);(clear c27);(replace H := Option.bind_eq_some_iff.mp H);(obtain ⟨t239, A280, H⟩ := H);(replace H : (residual_Push.l1 kj22 t239 a3 l2 (l2.length : Int) 0 a0_0 a0_1 a0_2 l0_3) = some (r1, r2) := H);(have A28 := Aside0.mk A280);(clear A280);(have H' := Aside0.mk H);(clear H)
         (go_wp2_with (first | (go_at_call 37; (with_reducible refine (clone64.calls _ _ l1 t239 _ ?side1 ?side2 A28.out).mono ?_); (case side1 => repeat (first | exact (Kd.C_below HR1.out HB.out) | (with_reducible refine Kd.C_alloc ?_ _) | (with_reducible refine Kd.C_drewN ?_ _) | (with_reducible refine Kd.C_drew ?_))); (case side2 => exact HC1.out); rintro e w29 ⟨v240, rfl, ho0, hb⟩; have n0_ := Aside0.mk (Kd.R_lower ho0 (below_size (by repeat (first | (with_reducible first | exact HB.out | apply below_alloc | apply pw_below_drewN | apply below_drew1 | refine below_set ?_ GE234.out) | exact HB.out)))); have n1_ := Aside0.mk (blk_below (g := gb234) (o := .cells #[.int .i64 a0_0, .int .i64 a0_1, .int .i64 a0_2, .slice A0_3 l0_3.length c0_3] 26 (0, 0)) (by (with_reducible repeat first | refine blk_drewN ?_ _ | refine blk_drew ?_ | refine blk_alloc ?_ _); exact BK234.out) hb); have n2_ := Aside0.mk (below_step (by repeat (first | (with_reducible first | exact HB.out | apply below_alloc | apply pw_below_drewN | apply below_drew1 | refine below_set ?_ GE234.out) | exact HB.out)) hb); clear BK234; clear HB; have HO241 := n0_; have BK234 := n1_; have HB := n2_; clear n0_ n1_ n2_; (try clear hb); (try clear ho0)))); (go_loopg [66] kj22 (fun kq v66 w' => ∃ (x1_3 : List Int) (x66_3 : Int), v66 = .int .i64 x66_3 ∧ Aside0 (residual_Push.l1 kq x1_3 a3 l2 (l2.length : Int) x66_3 a0_0 a0_1 a0_2 l0_3 = some (r1, r2)) ∧ Aside0 (kq ≤ kj22) ∧ Aside0 (Kd.R (Kd.int .i64) 2 w' w.heap.size (fun _ => True) v240 x1_3) ∧ Aside0 (w'.heap[gb234]? = some (.cells #[.int .i64 a0_0, .int .i64 a0_1, .int .i64 a0_2, (.slice A0_3 l0_3.length c0_3)] 26 (0, 0))) ∧ Aside0 (Below w.heap.size w w')))
         case atStart => exact ⟨(t239), (0), (by first | rfl | (simp; done) | (simp [*]; done)), H', ⟨Nat.le_refl _⟩, ⟨by (with_reducible repeat first | apply Kd.R_alloc | apply Kd.R_drewN | apply Kd.R_drew); exact HO241.out⟩, ⟨by (with_reducible repeat first | refine blk_drewN ?_ _ | refine blk_drew ?_ | refine blk_alloc ?_ _); exact BK234.out⟩, ⟨by repeat (first | (with_reducible first | exact HB.out | apply below_alloc | apply pw_below_drewN | apply below_drew1 | refine below_set ?_ GE234.out) | exact HB.out)⟩⟩
         case round =>
          clear H'
          try clear c1
          try clear c2
          try clear p2
          try clear q2
          try clear hx2
          try clear c3
          try clear c6
          try clear c6b0
          try clear c6b1
          try clear p6
          try clear c11
          try clear c11b0
          try clear c12
          try clear c12b0
          try clear c13
          try clear c13b0
          try clear c15
          try clear c15b0
          try clear c15b1
          try clear c16
          try clear c16b0
          try clear c16b1
          try clear p23
          try clear q23
          try clear hx23
          try clear c24
          try clear c24b0
          try clear c24b1
          try clear c24b2
          try clear c26
          try clear c27
          try clear c27b0
          try clear hcz10_0
          try clear hcz10_1
          try clear hcz10_2
          try clear hcz10_3
          try clear hcz17_0
          try clear hcz17_1
          try clear hcz17_2
          try clear hcz17_3
          try clear hcz19_0
          try clear hcz19_1
          try clear hcz19_2
          try clear hcz19_3
          try clear hcz21_0
          try clear hcz21_1
          try clear hcz21_2
          try clear hcz21_3
          try clear hcz25_0
          try clear hcz25_1
          try clear hcz25_2
          try clear hcz25_3
          try clear hcz8_0
          try clear hcz8_1
          try clear hcz8_2
          try clear hcz8_3
          try clear hfz10_0
          try clear hfz10_1
          try clear hfz10_2
          try clear hfz10_3
          try clear hfz17_0
          try clear hfz17_1
          try clear hfz17_2
          try clear hfz17_3
          try clear hfz19_0
          try clear hfz19_1
          try clear hfz19_2
          try clear hfz19_3
          try clear hfz21_0
          try clear hfz21_1
          try clear hfz21_2
          try clear hfz21_3
          try clear hfz25_0
          try clear hfz25_1
          try clear hfz25_2
          try clear hfz25_3
          try clear hfz8_0
          try clear hfz8_1
          try clear hfz8_2
          try clear hfz8_3
          try clear hx236_0
          try clear p2
          try clear p23
          try clear p236
          try clear p6
          try clear q2
          try clear q23
          try clear q236
          obtain ⟨x1_3, x66_3, rfl, HA, HK3, HO_1, BK234, HB⟩ := hrel
          cases gk with
          | zero => exact absurd HA.out (by simp [residual_Push.l1])
          | succ k3 =>
           ((have H := HA.out);(clear HA);(simp only [residual_Push.l1] at H)); (by_cases c30 : x66_3 < (l2.length : Int))
           ·(rw [if_pos c30] at H);(have c30b0 : decide (x66_3 < (l2.length : Int)) = true := decide_eq_true c30);(clear c30)
            by_cases c31 : 0 ≤ x66_3
            ·(rw [if_pos c31] at H);(have c31b0 : decide (0 ≤ x66_3) = true := decide_eq_true c31);(clear c31)
             by_cases c32 : x66_3 < (l2.length : Int)
             ·(rw [if_pos c32] at H);(have c32b0 : decide (x66_3 < (l2.length : Int)) = true := decide_eq_true c32);(clear c32)
              by_cases c33 : (Go.bits .and .i64 (rd l2 x66_3) 1) = 1
              ·(rw [if_pos c33] at H);(have c33b0 : ((Go.bits .and .i64 (rd l2 x66_3) 1) == 1) = true := beq_iff_eq.mpr c33);(have c33b1 : ((Go.bits .and .i64 (rd l2 x66_3) 1) != 1) = false := bne_eq_false_iff_eq.mpr c33);(clear c33);(obtain ⟨ji34, hji34⟩ : ∃ j_ : Int, (wrap64 (Int.tdiv (rd l2 x66_3) 2)) = j_ := ⟨_, rfl⟩);(replace H : (if 0 ≤ (ji34) then (if (ji34) < (x1_3.length : Int) then (if (ji34) < (l0_3.length : Int) then (if (rd x1_3 (ji34)) > (wrap64 (((rd_T30 l0_3 (ji34)).f2) - (wrap64 (-a3)))) then (some (([] : List Int), 9)) else (if (rd x1_3 (ji34)) < (wrap64 (-(wrap64 (-a3)))) then (some (([] : List Int), 9)) else (residual_Push.l1 k3 (x1_3.set ((ji34) : Int).toNat (wrap64 ((rd x1_3 (ji34)) + (wrap64 (-a3))))) a3 l2 (l2.length : Int) (wrap64 (x66_3 + 1)) a0_0 a0_1 a0_2 l0_3))) else (none)) else (none)) else (none)) = some (r1, r2) := by first | (rw [hji34] at H; exact H) | (simp only [hji34] at H ⊢; exact H));(have hji34w : (IntKind.i64.wrap (Int.tdiv (rd l2 x66_3) 2)) = ji34 := (i64_w _).trans hji34)
               by_cases c35 : 0 ≤ (ji34)
               ·(rw [if_pos c35] at H);(have c35b0 : decide (0 ≤ (ji34)) = true := decide_eq_true c35);(clear c35)
                by_cases c36 : (ji34) < (x1_3.length : Int)
                ·(rw [if_pos c36] at H);(have c36b0 : decide ((ji34) < (x1_3.length : Int)) = true := decide_eq_true c36);(clear c36)
                 by_cases c37 : (ji34) < (l0_3.length : Int)
                 ·(rw [if_pos c37] at H);(have c37b0 : decide ((ji34) < (l0_3.length : Int)) = true := decide_eq_true c37);(clear c37)
                  by_cases c38 : (rd x1_3 (ji34)) > (wrap64 (((rd_T30 l0_3 (ji34)).f2) - (wrap64 (-a3))))
                  ·(rw [if_pos c38] at H);(have c38b0 : decide ((wrap64 (((rd_T30 l0_3 (ji34)).f2) - (wrap64 (-a3)))) < (rd x1_3 (ji34))) = true := decide_eq_true c38);(clear c38)
                   as_aux_lemma =>
                    ((simp only [Option.some.injEq, Prod.mk.injEq] at H);(obtain ⟨rfl, rfl⟩ := H);(have p242 : 0 ≤ (x66_3 : Int) := of_decide_eq_true (by first | (with_reducible assumption) | assumption));(have q242 : x66_3 < (l2.length : Int) := of_decide_eq_true (by first | (with_reducible assumption) | assumption));(obtain ⟨ad242, e242, hx242_0⟩ := Kd.at_int HR2.out x66_3 p242 q242);(cases e242);(replace hx242_0 := (HB.out.cell (World.block_lt_of_cell? w _ hx242_0)).trans hx242_0);(replace p242 := eq_true p242);(replace q242 := eq_true q242);(obtain ⟨Ao39, co39, eo39⟩ := Kd.R_slice HO_1.out);(subst eo39);(have p243 : 0 ≤ ((ji34) : Int) := of_decide_eq_true (by first | (with_reducible assumption) | assumption));(have q243 : (ji34) < (x1_3.length : Int) := of_decide_eq_true (by first | (with_reducible assumption) | assumption));(obtain ⟨ad243, e243, hx243_0⟩ := Kd.at_int (Kd.R_reads' HO_1.out).2.2 (ji34) p243 q243);(cases e243);(replace p243 := eq_true p243);(replace q243 := eq_true q243);(have hcz40_0 : wr.cell? ⟨gb234, 0, none⟩ = some (.int .i64 a0_0) := (blk_cell BK234.out 0).trans rfl);(have hcz40_1 : wr.cell? ⟨gb234, 1, none⟩ = some (.int .i64 a0_1) := (blk_cell BK234.out 1).trans rfl);(have hcz40_2 : wr.cell? ⟨gb234, 2, none⟩ = some (.int .i64 a0_2) := (blk_cell BK234.out 2).trans rfl);(have hcz40_3 : wr.cell? ⟨gb234, 3, none⟩ = some (.slice A0_3 l0_3.length c0_3) := (blk_cell BK234.out 3).trans rfl);(have hfz40_0 := blk_frozen BK234.out 0);(have hfz40_1 := blk_frozen BK234.out 1);(have hfz40_2 := blk_frozen BK234.out 2);(have hfz40_3 := blk_frozen BK234.out 3);(have p244 : 0 ≤ ((ji34) : Int) := of_decide_eq_true (by first | (with_reducible assumption) | assumption));(have q244 : (ji34) < (l0_3.length : Int) := of_decide_eq_true (by first | (with_reducible assumption) | assumption));(obtain ⟨ad244, e244, hx244_0, hx244_1, hx244_2⟩ := at_T30 HR0_3.out (ji34) p244 q244);(cases e244);(replace hx244_0 := (HB.out.cell (World.block_lt_of_cell? w _ hx244_0)).trans hx244_0);(replace hx244_1 := (HB.out.cell (World.block_lt_of_cell? w _ hx244_1)).trans hx244_1);(replace hx244_2 := (HB.out.cell (World.block_lt_of_cell? w _ hx244_2)).trans hx244_2);(replace p244 := eq_true p244);(replace q244 := eq_true q244)); (go_wp2); (repeat (go_quiet (fail); try go_wp2)); (go_ret2); (exact ⟨_, by first | rfl | (simp [errW_none, errW_some] <;> rfl) | (simp only [← hji34]; first | rfl | (simp [errW_none, errW_some] <;> rfl)) | (simp [*, errW_none, errW_some] <;> rfl), by first | exact Kd.R_nil _ _ _ _ _ | exact Kd.N_nil _ _ _ _ _ | exact Kd.V_nil _ _ _ _ _ | exact Kd.Q_nil _ _ _ _ _ | exact Kd.S_nil _ _ _ _ _, by repeat (first | (with_reducible first | exact HB.out | apply below_alloc | apply pw_below_drewN | apply below_drew1 | refine below_set ?_ GE234.out) | exact HB.out)⟩)
                  ·(rw [if_neg c38] at H);(have c38b0 : decide ((wrap64 (((rd_T30 l0_3 (ji34)).f2) - (wrap64 (-a3)))) < (rd x1_3 (ji34))) = false := decide_eq_false c38);(clear c38)
                   by_cases c41 : (rd x1_3 (ji34)) < (wrap64 (-(wrap64 (-a3))))
                   ·(rw [if_pos c41] at H);(have c41b0 : decide ((rd x1_3 (ji34)) < (wrap64 (-(wrap64 (-a3))))) = true := decide_eq_true c41);(clear c41)
                    as_aux_lemma =>
                     ((simp only [Option.some.injEq, Prod.mk.injEq] at H);(obtain ⟨rfl, rfl⟩ := H);(have p242 : 0 ≤ (x66_3 : Int) := of_decide_eq_true (by first | (with_reducible assumption) | assumption));(have q242 : x66_3 < (l2.length : Int) := of_decide_eq_true (by first | (with_reducible assumption) | assumption));(obtain ⟨ad242, e242, hx242_0⟩ := Kd.at_int HR2.out x66_3 p242 q242);(cases e242);(replace hx242_0 := (HB.out.cell (World.block_lt_of_cell? w _ hx242_0)).trans hx242_0);(replace p242 := eq_true p242);(replace q242 := eq_true q242);(obtain ⟨Ao42, co42, eo42⟩ := Kd.R_slice HO_1.out);(subst eo42);(have p243 : 0 ≤ ((ji34) : Int) := of_decide_eq_true (by first | (with_reducible assumption) | assumption));(have q243 : (ji34) < (x1_3.length : Int) := of_decide_eq_true (by first | (with_reducible assumption) | assumption));(obtain ⟨ad243, e243, hx243_0⟩ := Kd.at_int (Kd.R_reads' HO_1.out).2.2 (ji34) p243 q243);(cases e243);(replace p243 := eq_true p243);(replace q243 := eq_true q243);(have hcz43_0 : wr.cell? ⟨gb234, 0, none⟩ = some (.int .i64 a0_0) := (blk_cell BK234.out 0).trans rfl);(have hcz43_1 : wr.cell? ⟨gb234, 1, none⟩ = some (.int .i64 a0_1) := (blk_cell BK234.out 1).trans rfl);(have hcz43_2 : wr.cell? ⟨gb234, 2, none⟩ = some (.int .i64 a0_2) := (blk_cell BK234.out 2).trans rfl);(have hcz43_3 : wr.cell? ⟨gb234, 3, none⟩ = some (.slice A0_3 l0_3.length c0_3) := (blk_cell BK234.out 3).trans rfl);(have hfz43_0 := blk_frozen BK234.out 0);(have hfz43_1 := blk_frozen BK234.out 1);(have hfz43_2 := blk_frozen BK234.out 2);(have hfz43_3 := blk_frozen BK234.out 3);(have p244 : 0 ≤ ((ji34) : Int) := of_decide_eq_true (by first | (with_reducible assumption) | assumption));(have q244 : (ji34) < (l0_3.length : Int) := of_decide_eq_true (by first | (with_reducible assumption) | assumption));(obtain ⟨ad244, e244, hx244_0, hx244_1, hx244_2⟩ := at_T30 HR0_3.out (ji34) p244 q244);(cases e244);(replace hx244_0 := (HB.out.cell (World.block_lt_of_cell? w _ hx244_0)).trans hx244_0);(replace hx244_1 := (HB.out.cell (World.block_lt_of_cell? w _ hx244_1)).trans hx244_1);(replace hx244_2 := (HB.out.cell (World.block_lt_of_cell? w _ hx244_2)).trans hx244_2);(replace p244 := eq_true p244);(replace q244 := eq_true q244);(have p245 : 0 ≤ ((ji34) : Int) := of_decide_eq_true (by first | (with_reducible assumption) | assumption));(have q245 : (ji34) < (x1_3.length : Int) := of_decide_eq_true (by first | (with_reducible assumption) | assumption));(obtain ⟨ad245, e245, hx245_0⟩ := Kd.at_int (Kd.R_reads' HO_1.out).2.2 (ji34) p245 q245);(obtain rfl : ad243 = ad245 := (by injection e245));(replace p245 := eq_true p245);(replace q245 := eq_true q245)); (go_wp2); (repeat (go_quiet (fail); try go_wp2)); (go_ret2); (exact ⟨_, by first | rfl | (simp [errW_none, errW_some] <;> rfl) | (simp only [← hji34]; first | rfl | (simp [errW_none, errW_some] <;> rfl)) | (simp [*, errW_none, errW_some] <;> rfl), by first | exact Kd.R_nil _ _ _ _ _ | exact Kd.N_nil _ _ _ _ _ | exact Kd.V_nil _ _ _ _ _ | exact Kd.Q_nil _ _ _ _ _ | exact Kd.S_nil _ _ _ _ _, by repeat (first | (with_reducible first | exact HB.out | apply below_alloc | apply pw_below_drewN | apply below_drew1 | refine below_set ?_ GE234.out) | exact HB.out)⟩)
                   ·(rw [if_neg c41] at H);(have c41b0 : decide ((rd x1_3 (ji34)) < (wrap64 (-(wrap64 (-a3))))) = false := decide_eq_false c41);(clear c41);(obtain ⟨y247, hy247⟩ : ∃ y_ : List Int, y_ = (x1_3.set ((ji34) : Int).toNat (wrap64 ((rd x1_3 (ji34)) + (wrap64 (-a3))))) := ⟨_, rfl⟩);(replace H : (residual_Push.l1 k3 y247 a3 l2 (l2.length : Int) (wrap64 (x66_3 + 1)) a0_0 a0_1 a0_2 l0_3) = some (r1, r2) := by first | (rw [hy247]; with_reducible exact H) | (have H2_ := (Option.bind_some _ _).symm.trans H; rw [hy247]; with_reducible exact H2_) | (have H2_ := (Option.bind_some _ _).symm.trans H; with_reducible exact H2_) | with_reducible exact H | (rw [hy247]; exact H) | exact H);(have Ny247 := Aside0.mk hy247);(clear hy247)
                    as_aux_lemma =>
                     ((have H' := Aside0.mk H);(clear H);(have p242 : 0 ≤ (x66_3 : Int) := of_decide_eq_true (by first | (with_reducible assumption) | assumption));(have q242 : x66_3 < (l2.length : Int) := of_decide_eq_true (by first | (with_reducible assumption) | assumption));(obtain ⟨ad242, e242, hx242_0⟩ := Kd.at_int HR2.out x66_3 p242 q242);(cases e242);(replace hx242_0 := (HB.out.cell (World.block_lt_of_cell? w _ hx242_0)).trans hx242_0);(replace p242 := eq_true p242);(replace q242 := eq_true q242);(obtain ⟨Ao45, co45, eo45⟩ := Kd.R_slice HO_1.out);(subst eo45);(have p243 : 0 ≤ ((ji34) : Int) := of_decide_eq_true (by first | (with_reducible assumption) | assumption));(have q243 : (ji34) < (x1_3.length : Int) := of_decide_eq_true (by first | (with_reducible assumption) | assumption));(obtain ⟨ad243, e243, hx243_0⟩ := Kd.at_int (Kd.R_reads' HO_1.out).2.2 (ji34) p243 q243);(cases e243);(replace p243 := eq_true p243);(replace q243 := eq_true q243);(have hcz46_0 : wr.cell? ⟨gb234, 0, none⟩ = some (.int .i64 a0_0) := (blk_cell BK234.out 0).trans rfl);(have hcz46_1 : wr.cell? ⟨gb234, 1, none⟩ = some (.int .i64 a0_1) := (blk_cell BK234.out 1).trans rfl);(have hcz46_2 : wr.cell? ⟨gb234, 2, none⟩ = some (.int .i64 a0_2) := (blk_cell BK234.out 2).trans rfl);(have hcz46_3 : wr.cell? ⟨gb234, 3, none⟩ = some (.slice A0_3 l0_3.length c0_3) := (blk_cell BK234.out 3).trans rfl);(have hfz46_0 := blk_frozen BK234.out 0);(have hfz46_1 := blk_frozen BK234.out 1);(have hfz46_2 := blk_frozen BK234.out 2);(have hfz46_3 := blk_frozen BK234.out 3);(have p244 : 0 ≤ ((ji34) : Int) := of_decide_eq_true (by first | (with_reducible assumption) | assumption));(have q244 : (ji34) < (l0_3.length : Int) := of_decide_eq_true (by first | (with_reducible assumption) | assumption));(obtain ⟨ad244, e244, hx244_0, hx244_1, hx244_2⟩ := at_T30 HR0_3.out (ji34) p244 q244);(cases e244);(replace hx244_0 := (HB.out.cell (World.block_lt_of_cell? w _ hx244_0)).trans hx244_0);(replace hx244_1 := (HB.out.cell (World.block_lt_of_cell? w _ hx244_1)).trans hx244_1);(replace hx244_2 := (HB.out.cell (World.block_lt_of_cell? w _ hx244_2)).trans hx244_2);(replace p244 := eq_true p244);(replace q244 := eq_true q244);(have p245 : 0 ≤ ((ji34) : Int) := of_decide_eq_true (by first | (with_reducible assumption) | assumption));(have q245 : (ji34) < (x1_3.length : Int) := of_decide_eq_true (by first | (with_reducible assumption) | assumption));(obtain ⟨ad245, e245, hx245_0⟩ := Kd.at_int (Kd.R_reads' HO_1.out).2.2 (ji34) p245 q245);(obtain rfl : ad243 = ad245 := (by injection e245));(replace p245 := eq_true p245);(replace q245 := eq_true q245);(have p246 : 0 ≤ ((ji34) : Int) := of_decide_eq_true (by first | (with_reducible assumption) | assumption));(have q246 : (ji34) < (x1_3.length : Int) := of_decide_eq_true (by first | (with_reducible assumption) | assumption));(obtain ⟨ad246, e246, hx246_0⟩ := Kd.at_int (Kd.R_reads' HO_1.out).2.2 (ji34) p246 q246);(obtain rfl : ad243 = ad246 := (by injection e246));(replace p246 := eq_true p246);(replace q246 := eq_true q246);(have p44 : 0 ≤ ((ji34) : Int) := of_decide_eq_true (by first | (with_reducible assumption) | assumption));(have q44 : ((ji34) : Int) < ((x1_3.length : Int) : Int) := of_decide_eq_true (by first | (with_reducible assumption) | assumption));(obtain ⟨go44, co44, eo44, gb44, gl44, cl44, HG44⟩ := Kd.R_form HO_1.out (by omega));((first | cases eo44 | (injection eo44 with ea_ en_ ec_; (first | subst ea_ | (injection ea_ with ea_; subst ea_)); subst ec_; clear en_)));(have GB44 := Aside0.mk gb44);(have GG44 := Aside0.mk HG44);(clear gb44 gl44 HG44);((first | simp only [add_plain] at hx243_0 | skip));((first | simp only [add_plain] at hx245_0 | skip));((first | simp only [add_plain] at hx246_0 | skip));(obtain ⟨hx44_0, hf44_0⟩ := Kd.R_celln 0 HO_1.out ((ji34) : Int) p44 q44);(replace p44 := eq_true p44);(replace q44 := eq_true q44);(have HP47 := Kd.R_putg HO_1.out ((ji34) : Int) (wrap64 ((rd x1_3 (ji34)) + (wrap64 (-a3)))))); (go_wp2_with (first | ((with_reducible refine gate_store (t := 2) (p := 106) rfl ?_); (try (rw [drewN_self wr]; generalize hq_ : World.drewN wr _ = wr; have n0_ := Aside0.mk (Kd.R_at hq_ HO_1.out); have n1_ := Aside0.mk (blk_at hq_ BK234.out); have n2_ := Aside0.mk (below_at hq_ HB.out); clear hq_ HO_1 BK234 HB; have HO_1 := n0_; have BK234 := n1_; have HB := n2_; clear n0_ n1_ n2_; (try (obtain ⟨hx44_0, hf44_0⟩ := Kd.R_celln 0 HO_1.out ((ji34) : Int) (of_eq_true p44) (of_eq_true q44))); (try (have HP47 := Kd.R_putg HO_1.out ((ji34) : Int) (wrap64 ((rd x1_3 (ji34)) + (wrap64 (-a3)))))))); refine store_event (t := 2) (p := 106) (v := ?vo_w48) (w1 := (wr.setCell ⟨go44, ((ji34) : Int).toNat, none⟩ (.int .i64 (wrap64 ((rd x1_3 (ji34)) + (wrap64 (-a3))))))) ?hg ?ho ?hn ?hr ?_; (case ho => rfl); (case hg => rfl); (case hn => rfl); (case hr => first | (go_simp; done) | (go_simp; rfl)); intro w48 hw; have hg : wr.grownBy w48 (some go44) := (by rw [hw]; exact HP47.2); have hp_ : Kd.R (Kd.int .i64) 2 w48 w.heap.size (fun _ => True) (.slice (some ⟨go44, 0, none⟩) x1_3.length co45) y247 := (by rw [hw, Ny247.out]; exact HP47.1); clear HP47; have n0_ := Aside0.mk (hp_); have n1_ := Aside0.mk (blk_grown (g := gb234) (o := .cells #[.int .i64 a0_0, .int .i64 a0_1, .int .i64 a0_2, .slice (some ad244) l0_3.length c0_3] 26 (0, 0)) (by (with_reducible repeat first | refine blk_drewN ?_ _ | refine blk_drew ?_ | refine blk_alloc ?_ _); exact BK234.out) hg (Kd.R_ne HO_1.out BK234.out (by decide))); have n2_ := Aside0.mk ((by rw [hw]; exact below_set (HB.out) GB44.out : Below w.heap.size w w48)); clear HO_1; clear BK234; clear HB; have HO_1 := n0_; have BK234 := n1_; have HB := n2_; clear n0_ n1_ n2_; clear hg hw hp_))); (repeat (go_quiet (first | ((with_reducible refine gate_store (t := 2) (p := 106) rfl ?_); (try (rw [drewN_self wr]; generalize hq_ : World.drewN wr _ = wr; have n0_ := Aside0.mk (Kd.R_at hq_ HO_1.out); have n1_ := Aside0.mk (blk_at hq_ BK234.out); have n2_ := Aside0.mk (below_at hq_ HB.out); clear hq_ HO_1 BK234 HB; have HO_1 := n0_; have BK234 := n1_; have HB := n2_; clear n0_ n1_ n2_; (try (obtain ⟨hx44_0, hf44_0⟩ := Kd.R_celln 0 HO_1.out ((ji34) : Int) (of_eq_true p44) (of_eq_true q44))); (try (have HP47 := Kd.R_putg HO_1.out ((ji34) : Int) (wrap64 ((rd x1_3 (ji34)) + (wrap64 (-a3)))))))); refine store_event (t := 2) (p := 106) (v := ?vo_w48) (w1 := (wr.setCell ⟨go44, ((ji34) : Int).toNat, none⟩ (.int .i64 (wrap64 ((rd x1_3 (ji34)) + (wrap64 (-a3))))))) ?hg ?ho ?hn ?hr ?_; (case ho => rfl); (case hg => rfl); (case hn => rfl); (case hr => first | (go_simp; done) | (go_simp; rfl)); intro w48 hw; have hg : wr.grownBy w48 (some go44) := (by rw [hw]; exact HP47.2); have hp_ : Kd.R (Kd.int .i64) 2 w48 w.heap.size (fun _ => True) (.slice (some ⟨go44, 0, none⟩) x1_3.length co45) y247 := (by rw [hw, Ny247.out]; exact HP47.1); clear HP47; have n0_ := Aside0.mk (hp_); have n1_ := Aside0.mk (blk_grown (g := gb234) (o := .cells #[.int .i64 a0_0, .int .i64 a0_1, .int .i64 a0_2, .slice (some ad244) l0_3.length c0_3] 26 (0, 0)) (by (with_reducible repeat first | refine blk_drewN ?_ _ | refine blk_drew ?_ | refine blk_alloc ?_ _); exact BK234.out) hg (Kd.R_ne HO_1.out BK234.out (by decide))); have n2_ := Aside0.mk ((by rw [hw]; exact below_set (HB.out) GB44.out : Below w.heap.size w w48)); clear HO_1; clear BK234; clear HB; have HO_1 := n0_; have BK234 := n1_; have HB := n2_; clear n0_ n1_ n2_; clear hg hw hp_)); try go_wp2_with (first | ((with_reducible refine gate_store (t := 2) (p := 106) rfl ?_); (try (rw [drewN_self wr]; generalize hq_ : World.drewN wr _ = wr; have n0_ := Aside0.mk (Kd.R_at hq_ HO_1.out); have n1_ := Aside0.mk (blk_at hq_ BK234.out); have n2_ := Aside0.mk (below_at hq_ HB.out); clear hq_ HO_1 BK234 HB; have HO_1 := n0_; have BK234 := n1_; have HB := n2_; clear n0_ n1_ n2_; (try (obtain ⟨hx44_0, hf44_0⟩ := Kd.R_celln 0 HO_1.out ((ji34) : Int) (of_eq_true p44) (of_eq_true q44))); (try (have HP47 := Kd.R_putg HO_1.out ((ji34) : Int) (wrap64 ((rd x1_3 (ji34)) + (wrap64 (-a3)))))))); refine store_event (t := 2) (p := 106) (v := ?vo_w48) (w1 := (wr.setCell ⟨go44, ((ji34) : Int).toNat, none⟩ (.int .i64 (wrap64 ((rd x1_3 (ji34)) + (wrap64 (-a3))))))) ?hg ?ho ?hn ?hr ?_; (case ho => rfl); (case hg => rfl); (case hn => rfl); (case hr => first | (go_simp; done) | (go_simp; rfl)); intro w48 hw; have hg : wr.grownBy w48 (some go44) := (by rw [hw]; exact HP47.2); have hp_ : Kd.R (Kd.int .i64) 2 w48 w.heap.size (fun _ => True) (.slice (some ⟨go44, 0, none⟩) x1_3.length co45) y247 := (by rw [hw, Ny247.out]; exact HP47.1); clear HP47; have n0_ := Aside0.mk (hp_); have n1_ := Aside0.mk (blk_grown (g := gb234) (o := .cells #[.int .i64 a0_0, .int .i64 a0_1, .int .i64 a0_2, .slice (some ad244) l0_3.length c0_3] 26 (0, 0)) (by (with_reducible repeat first | refine blk_drewN ?_ _ | refine blk_drew ?_ | refine blk_alloc ?_ _); exact BK234.out) hg (Kd.R_ne HO_1.out BK234.out (by decide))); have n2_ := Aside0.mk ((by rw [hw]; exact below_set (HB.out) GB44.out : Below w.heap.size w w48)); clear HO_1; clear BK234; clear HB; have HO_1 := n0_; have BK234 := n1_; have HB := n2_; clear n0_ n1_ n2_; clear hg hw hp_))))
                     go_roundg k3
                     case measure => have := HK1.out; have := HJ22.out; have := HK3.out; omega
                     case rel => exact ⟨(y247), (wrap64 (x66_3 + 1)), (by first | rfl | (simp; done) | (simp [*]; done)), H', ⟨by have := HK1.out; have := HJ22.out; have := HK3.out; omega⟩, ⟨by (with_reducible repeat first | apply Kd.R_alloc | apply Kd.R_drewN | apply Kd.R_drew); exact HO_1.out⟩, ⟨by (with_reducible repeat first | refine blk_drewN ?_ _ | refine blk_drew ?_ | refine blk_alloc ?_ _); exact BK234.out⟩, ⟨by repeat (first | (with_reducible first | exact HB.out | apply below_alloc | apply pw_below_drewN | apply below_drew1 | refine below_set ?_ GE234.out) | exact HB.out)⟩⟩
                 ·(rw [if_neg c37] at H);(exact absurd H (by simp))
                ·(rw [if_neg c36] at H);(exact absurd H (by simp))
               ·(rw [if_neg c35] at H);(exact absurd H (by simp))
              ·(rw [if_neg c33] at H);(have c33b0 : ((Go.bits .and .i64 (rd l2 x66_3) 1) == 1) = false := beq_eq_false_iff_ne.mpr c33);(have c33b1 : ((Go.bits .and .i64 (rd l2 x66_3) 1) != 1) = true := bne_iff_ne.mpr c33);(obtain ⟨ji49, hji49⟩ : ∃ j_ : Int, (wrap64 (Int.tdiv (rd l2 x66_3) 2)) = j_ := ⟨_, rfl⟩);(replace H : (if 0 ≤ (ji49) then (if (ji49) < (x1_3.length : Int) then (if (ji49) < (l0_3.length : Int) then (if (rd x1_3 (ji49)) > (wrap64 (((rd_T30 l0_3 (ji49)).f2) - a3)) then (some (([] : List Int), 9)) else (if (rd x1_3 (ji49)) < (wrap64 (-a3)) then (some (([] : List Int), 9)) else (residual_Push.l1 k3 (x1_3.set ((ji49) : Int).toNat (wrap64 ((rd x1_3 (ji49)) + a3))) a3 l2 (l2.length : Int) (wrap64 (x66_3 + 1)) a0_0 a0_1 a0_2 l0_3))) else (none)) else (none)) else (none)) = some (r1, r2) := by first | (rw [hji49] at H; exact H) | (simp only [hji49] at H ⊢; exact H));(have hji49w : (IntKind.i64.wrap (Int.tdiv (rd l2 x66_3) 2)) = ji49 := (i64_w _).trans hji49)
               by_cases c50 : 0 ≤ (ji49)
               ·(rw [if_pos c50] at H);(have c50b0 : decide (0 ≤ (ji49)) = true := decide_eq_true c50);(clear c50)
                by_cases c51 : (ji49) < (x1_3.length : Int)
                ·(rw [if_pos c51] at H);(have c51b0 : decide ((ji49) < (x1_3.length : Int)) = true := decide_eq_true c51);(clear c51)
                 by_cases c52 : (ji49) < (l0_3.length : Int)
                 ·(rw [if_pos c52] at H);(have c52b0 : decide ((ji49) < (l0_3.length : Int)) = true := decide_eq_true c52);(clear c52)
                  by_cases c53 : (rd x1_3 (ji49)) > (wrap64 (((rd_T30 l0_3 (ji49)).f2) - a3))
                  ·(rw [if_pos c53] at H);(have c53b0 : decide ((wrap64 (((rd_T30 l0_3 (ji49)).f2) - a3)) < (rd x1_3 (ji49))) = true := decide_eq_true c53);(clear c53)
                   as_aux_lemma =>
                    ((simp only [Option.some.injEq, Prod.mk.injEq] at H);(obtain ⟨rfl, rfl⟩ := H);(have p242 : 0 ≤ (x66_3 : Int) := of_decide_eq_true (by first | (with_reducible assumption) | assumption));(have q242 : x66_3 < (l2.length : Int) := of_decide_eq_true (by first | (with_reducible assumption) | assumption));(obtain ⟨ad242, e242, hx242_0⟩ := Kd.at_int HR2.out x66_3 p242 q242);(cases e242);(replace hx242_0 := (HB.out.cell (World.block_lt_of_cell? w _ hx242_0)).trans hx242_0);(replace p242 := eq_true p242);(replace q242 := eq_true q242);(obtain ⟨Ao54, co54, eo54⟩ := Kd.R_slice HO_1.out);(subst eo54);(have p248 : 0 ≤ ((ji49) : Int) := of_decide_eq_true (by first | (with_reducible assumption) | assumption));(have q248 : (ji49) < (x1_3.length : Int) := of_decide_eq_true (by first | (with_reducible assumption) | assumption));(obtain ⟨ad248, e248, hx248_0⟩ := Kd.at_int (Kd.R_reads' HO_1.out).2.2 (ji49) p248 q248);(cases e248);(replace p248 := eq_true p248);(replace q248 := eq_true q248);(have hcz55_0 : wr.cell? ⟨gb234, 0, none⟩ = some (.int .i64 a0_0) := (blk_cell BK234.out 0).trans rfl);(have hcz55_1 : wr.cell? ⟨gb234, 1, none⟩ = some (.int .i64 a0_1) := (blk_cell BK234.out 1).trans rfl);(have hcz55_2 : wr.cell? ⟨gb234, 2, none⟩ = some (.int .i64 a0_2) := (blk_cell BK234.out 2).trans rfl);(have hcz55_3 : wr.cell? ⟨gb234, 3, none⟩ = some (.slice A0_3 l0_3.length c0_3) := (blk_cell BK234.out 3).trans rfl);(have hfz55_0 := blk_frozen BK234.out 0);(have hfz55_1 := blk_frozen BK234.out 1);(have hfz55_2 := blk_frozen BK234.out 2);(have hfz55_3 := blk_frozen BK234.out 3);(have p249 : 0 ≤ ((ji49) : Int) := of_decide_eq_true (by first | (with_reducible assumption) | assumption));(have q249 : (ji49) < (l0_3.length : Int) := of_decide_eq_true (by first | (with_reducible assumption) | assumption));(obtain ⟨ad249, e249, hx249_0, hx249_1, hx249_2⟩ := at_T30 HR0_3.out (ji49) p249 q249);(cases e249);(replace hx249_0 := (HB.out.cell (World.block_lt_of_cell? w _ hx249_0)).trans hx249_0);(replace hx249_1 := (HB.out.cell (World.block_lt_of_cell? w _ hx249_1)).trans hx249_1);(replace hx249_2 := (HB.out.cell (World.block_lt_of_cell? w _ hx249_2)).trans hx249_2);(replace p249 := eq_true p249);(replace q249 := eq_true q249)); (go_wp2); (repeat (go_quiet (fail); try go_wp2)); (go_ret2); (exact ⟨_, by first | rfl | (simp [errW_none, errW_some] <;> rfl) | (simp only [← hji49]; first | rfl | (simp [errW_none, errW_some] <;> rfl)) | (simp [*, errW_none, errW_some] <;> rfl), by first | exact Kd.R_nil _ _ _ _ _ | exact Kd.N_nil _ _ _ _ _ | exact Kd.V_nil _ _ _ _ _ | exact Kd.Q_nil _ _ _ _ _ | exact Kd.S_nil _ _ _ _ _, by repeat (first | (with_reducible first | exact HB.out | apply below_alloc | apply pw_below_drewN | apply below_drew1 | refine below_set ?_ GE234.out) | exact HB.out)⟩)
                  ·(rw [if_neg c53] at H);(have c53b0 : decide ((wrap64 (((rd_T30 l0_3 (ji49)).f2) - a3)) < (rd x1_3 (ji49))) = false := decide_eq_false c53);(clear c53)
                   by_cases c56 : (rd x1_3 (ji49)) < (wrap64 (-a3))
                   ·(rw [if_pos c56] at H);(have c56b0 : decide ((rd x1_3 (ji49)) < (wrap64 (-a3))) = true := decide_eq_true c56);(clear c56)
                    as_aux_lemma =>
                     ((simp only [Option.some.injEq, Prod.mk.injEq] at H);(obtain ⟨rfl, rfl⟩ := H);(have p242 : 0 ≤ (x66_3 : Int) := of_decide_eq_true (by first | (with_reducible assumption) | assumption));(have q242 : x66_3 < (l2.length : Int) := of_decide_eq_true (by first | (with_reducible assumption) | assumption));(obtain ⟨ad242, e242, hx242_0⟩ := Kd.at_int HR2.out x66_3 p242 q242);(cases e242);(replace hx242_0 := (HB.out.cell (World.block_lt_of_cell? w _ hx242_0)).trans hx242_0);(replace p242 := eq_true p242);(replace q242 := eq_true q242);(obtain ⟨Ao57, co57, eo57⟩ := Kd.R_slice HO_1.out);(subst eo57);(have p248 : 0 ≤ ((ji49) : Int) := of_decide_eq_true (by first | (with_reducible assumption) | assumption));(have q248 : (ji49) < (x1_3.length : Int) := of_decide_eq_true (by first | (with_reducible assumption) | assumption));(obtain ⟨ad248, e248, hx248_0⟩ := Kd.at_int (Kd.R_reads' HO_1.out).2.2 (ji49) p248 q248);(cases e248);(replace p248 := eq_true p248);(replace q248 := eq_true q248);(have hcz58_0 : wr.cell? ⟨gb234, 0, none⟩ = some (.int .i64 a0_0) := (blk_cell BK234.out 0).trans rfl);(have hcz58_1 : wr.cell? ⟨gb234, 1, none⟩ = some (.int .i64 a0_1) := (blk_cell BK234.out 1).trans rfl);(have hcz58_2 : wr.cell? ⟨gb234, 2, none⟩ = some (.int .i64 a0_2) := (blk_cell BK234.out 2).trans rfl);(have hcz58_3 : wr.cell? ⟨gb234, 3, none⟩ = some (.slice A0_3 l0_3.length c0_3) := (blk_cell BK234.out 3).trans rfl);(have hfz58_0 := blk_frozen BK234.out 0);(have hfz58_1 := blk_frozen BK234.out 1);(have hfz58_2 := blk_frozen BK234.out 2);(have hfz58_3 := blk_frozen BK234.out 3);(have p249 : 0 ≤ ((ji49) : Int) := of_decide_eq_true (by first | (with_reducible assumption) | assumption));(have q249 : (ji49) < (l0_3.length : Int) := of_decide_eq_true (by first | (with_reducible assumption) | assumption));(obtain ⟨ad249, e249, hx249_0, hx249_1, hx249_2⟩ := at_T30 HR0_3.out (ji49) p249 q249);(cases e249);(replace hx249_0 := (HB.out.cell (World.block_lt_of_cell? w _ hx249_0)).trans hx249_0);(replace hx249_1 := (HB.out.cell (World.block_lt_of_cell? w _ hx249_1)).trans hx249_1);(replace hx249_2 := (HB.out.cell (World.block_lt_of_cell? w _ hx249_2)).trans hx249_2);(replace p249 := eq_true p249);(replace q249 := eq_true q249);(have p250 : 0 ≤ ((ji49) : Int) := of_decide_eq_true (by first | (with_reducible assumption) | assumption));(have q250 : (ji49) < (x1_3.length : Int) := of_decide_eq_true (by first | (with_reducible assumption) | assumption));(obtain ⟨ad250, e250, hx250_0⟩ := Kd.at_int (Kd.R_reads' HO_1.out).2.2 (ji49) p250 q250);(obtain rfl : ad248 = ad250 := (by injection e250));(replace p250 := eq_true p250);(replace q250 := eq_true q250)); (go_wp2); (repeat (go_quiet (fail); try go_wp2)); (go_ret2); (exact ⟨_, by first | rfl | (simp [errW_none, errW_some] <;> rfl) | (simp only [← hji49]; first | rfl | (simp [errW_none, errW_some] <;> rfl)) | (simp [*, errW_none, errW_some] <;> rfl), by first | exact Kd.R_nil _ _ _ _ _ | exact Kd.N_nil _ _ _ _ _ | exact Kd.V_nil _ _ _ _ _ | exact Kd.Q_nil _ _ _ _ _ | exact Kd.S_nil _ _ _ _ _, by repeat (first | (with_reducible first | exact HB.out | apply below_alloc | apply pw_below_drewN | apply below_drew1 | refine below_set ?_ GE234.out) | exact HB.out)⟩)
                   ·(rw [if_neg c56] at H);(have c56b0 : decide ((rd x1_3 (ji49)) < (wrap64 (-a3))) = false := decide_eq_false c56);(clear c56);(obtain ⟨y252, hy252⟩ : ∃ y_ : List Int, y_ = (x1_3.set ((ji49) : Int).toNat (wrap64 ((rd x1_3 (ji49)) + a3))) := ⟨_, rfl⟩);(replace H : (residual_Push.l1 k3 y252 a3 l2 (l2.length : Int) (wrap64 (x66_3 + 1)) a0_0 a0_1 a0_2 l0_3) = some (r1, r2) := by first | (rw [hy252]; with_reducible exact H) | (have H2_ := (Option.bind_some _ _).symm.trans H; rw [hy252]; with_reducible exact H2_) | (have H2_ := (Option.bind_some _ _).symm.trans H; with_reducible exact H2_) | with_reducible exact H | (rw [hy252]; exact H) | exact H);(have Ny252 := Aside0.mk hy252);(clear hy252)
                    as_aux_lemma =>
                     ((have H' := Aside0.mk H);(clear H);(have p242 : 0 ≤ (x66_3 : Int) := of_decide_eq_true (by first | (with_reducible assumption) | assumption));(have q242 : x66_3 < (l2.length : Int) := of_decide_eq_true (by first | (with_reducible assumption) | assumption));(obtain ⟨ad242, e242, hx242_0⟩ := Kd.at_int HR2.out x66_3 p242 q242);(cases e242);(replace hx242_0 := (HB.out.cell (World.block_lt_of_cell? w _ hx242_0)).trans hx242_0);(replace p242 := eq_true p242);(replace q242 := eq_true q242);(obtain ⟨Ao60, co60, eo60⟩ := Kd.R_slice HO_1.out);(subst eo60);(have p248 : 0 ≤ ((ji49) : Int) := of_decide_eq_true (by first | (with_reducible assumption) | assumption));(have q248 : (ji49) < (x1_3.length : Int) := of_decide_eq_true (by first | (with_reducible assumption) | assumption));(obtain ⟨ad248, e248, hx248_0⟩ := Kd.at_int (Kd.R_reads' HO_1.out).2.2 (ji49) p248 q248);(cases e248);(replace p248 := eq_true p248);(replace q248 := eq_true q248);(have hcz61_0 : wr.cell? ⟨gb234, 0, none⟩ = some (.int .i64 a0_0) := (blk_cell BK234.out 0).trans rfl);(have hcz61_1 : wr.cell? ⟨gb234, 1, none⟩ = some (.int .i64 a0_1) := (blk_cell BK234.out 1).trans rfl);(have hcz61_2 : wr.cell? ⟨gb234, 2, none⟩ = some (.int .i64 a0_2) := (blk_cell BK234.out 2).trans rfl);(have hcz61_3 : wr.cell? ⟨gb234, 3, none⟩ = some (.slice A0_3 l0_3.length c0_3) := (blk_cell BK234.out 3).trans rfl);(have hfz61_0 := blk_frozen BK234.out 0);(have hfz61_1 := blk_frozen BK234.out 1);(have hfz61_2 := blk_frozen BK234.out 2);(have hfz61_3 := blk_frozen BK234.out 3);(have p249 : 0 ≤ ((ji49) : Int) := of_decide_eq_true (by first | (with_reducible assumption) | assumption));(have q249 : (ji49) < (l0_3.length : Int) := of_decide_eq_true (by first | (with_reducible assumption) | assumption));(obtain ⟨ad249, e249, hx249_0, hx249_1, hx249_2⟩ := at_T30 HR0_3.out (ji49) p249 q249);(cases e249);(replace hx249_0 := (HB.out.cell (World.block_lt_of_cell? w _ hx249_0)).trans hx249_0);(replace hx249_1 := (HB.out.cell (World.block_lt_of_cell? w _ hx249_1)).trans hx249_1);(replace hx249_2 := (HB.out.cell (World.block_lt_of_cell? w _ hx249_2)).trans hx249_2);(replace p249 := eq_true p249);(replace q249 := eq_true q249);(have p250 : 0 ≤ ((ji49) : Int) := of_decide_eq_true (by first | (with_reducible assumption) | assumption));(have q250 : (ji49) < (x1_3.length : Int) := of_decide_eq_true (by first | (with_reducible assumption) | assumption));(obtain ⟨ad250, e250, hx250_0⟩ := Kd.at_int (Kd.R_reads' HO_1.out).2.2 (ji49) p250 q250);(obtain rfl : ad248 = ad250 := (by injection e250));(replace p250 := eq_true p250);(replace q250 := eq_true q250);(have p251 : 0 ≤ ((ji49) : Int) := of_decide_eq_true (by first | (with_reducible assumption) | assumption));(have q251 : (ji49) < (x1_3.length : Int) := of_decide_eq_true (by first | (with_reducible assumption) | assumption));(obtain ⟨ad251, e251, hx251_0⟩ := Kd.at_int (Kd.R_reads' HO_1.out).2.2 (ji49) p251 q251);(obtain rfl : ad248 = ad251 := (by injection e251));(replace p251 := eq_true p251);(replace q251 := eq_true q251);(have p59 : 0 ≤ ((ji49) : Int) := of_decide_eq_true (by first | (with_reducible assumption) | assumption));(have q59 : ((ji49) : Int) < ((x1_3.length : Int) : Int) := of_decide_eq_true (by first | (with_reducible assumption) | assumption));(obtain ⟨go59, co59, eo59, gb59, gl59, cl59, HG59⟩ := Kd.R_form HO_1.out (by omega));((first | cases eo59 | (injection eo59 with ea_ en_ ec_; (first | subst ea_ | (injection ea_ with ea_; subst ea_)); subst ec_; clear en_)));(have GB59 := Aside0.mk gb59);(have GG59 := Aside0.mk HG59);(clear gb59 gl59 HG59);((first | simp only [add_plain] at hx248_0 | skip));((first | simp only [add_plain] at hx250_0 | skip));((first | simp only [add_plain] at hx251_0 | skip));(obtain ⟨hx59_0, hf59_0⟩ := Kd.R_celln 0 HO_1.out ((ji49) : Int) p59 q59);(replace p59 := eq_true p59);(replace q59 := eq_true q59);(have HP62 := Kd.R_putg HO_1.out ((ji49) : Int) (wrap64 ((rd x1_3 (ji49)) + a3)))); (go_wp2_with (first | ((with_reducible refine gate_store (t := 2) (p := 106) rfl ?_); (try (rw [drewN_self wr]; generalize hq_ : World.drewN wr _ = wr; have n0_ := Aside0.mk (Kd.R_at hq_ HO_1.out); have n1_ := Aside0.mk (blk_at hq_ BK234.out); have n2_ := Aside0.mk (below_at hq_ HB.out); clear hq_ HO_1 BK234 HB; have HO_1 := n0_; have BK234 := n1_; have HB := n2_; clear n0_ n1_ n2_; (try (obtain ⟨hx59_0, hf59_0⟩ := Kd.R_celln 0 HO_1.out ((ji49) : Int) (of_eq_true p59) (of_eq_true q59))); (try (have HP62 := Kd.R_putg HO_1.out ((ji49) : Int) (wrap64 ((rd x1_3 (ji49)) + a3)))))); refine store_event (t := 2) (p := 106) (v := ?vo_w63) (w1 := (wr.setCell ⟨go59, ((ji49) : Int).toNat, none⟩ (.int .i64 (wrap64 ((rd x1_3 (ji49)) + a3))))) ?hg ?ho ?hn ?hr ?_; (case ho => rfl); (case hg => rfl); (case hn => rfl); (case hr => first | (go_simp; done) | (go_simp; rfl)); intro w63 hw; have hg : wr.grownBy w63 (some go59) := (by rw [hw]; exact HP62.2); have hp_ : Kd.R (Kd.int .i64) 2 w63 w.heap.size (fun _ => True) (.slice (some ⟨go59, 0, none⟩) x1_3.length co60) y252 := (by rw [hw, Ny252.out]; exact HP62.1); clear HP62; have n0_ := Aside0.mk (hp_); have n1_ := Aside0.mk (blk_grown (g := gb234) (o := .cells #[.int .i64 a0_0, .int .i64 a0_1, .int .i64 a0_2, .slice (some ad249) l0_3.length c0_3] 26 (0, 0)) (by (with_reducible repeat first | refine blk_drewN ?_ _ | refine blk_drew ?_ | refine blk_alloc ?_ _); exact BK234.out) hg (Kd.R_ne HO_1.out BK234.out (by decide))); have n2_ := Aside0.mk ((by rw [hw]; exact below_set (HB.out) GB59.out : Below w.heap.size w w63)); clear HO_1; clear BK234; clear HB; have HO_1 := n0_; have BK234 := n1_; have HB := n2_; clear n0_ n1_ n2_; clear hg hw hp_))); (repeat (go_quiet (first | ((with_reducible refine gate_store (t := 2) (p := 106) rfl ?_); (try (rw [drewN_self wr]; generalize hq_ : World.drewN wr _ = wr; have n0_ := Aside0.mk (Kd.R_at hq_ HO_1.out); have n1_ := Aside0.mk (blk_at hq_ BK234.out); have n2_ := Aside0.mk (below_at hq_ HB.out); clear hq_ HO_1 BK234 HB; have HO_1 := n0_; have BK234 := n1_; have HB := n2_; clear n0_ n1_ n2_; (try (obtain ⟨hx59_0, hf59_0⟩ := Kd.R_celln 0 HO_1.out ((ji49) : Int) (of_eq_true p59) (of_eq_true q59))); (try (have HP62 := Kd.R_putg HO_1.out ((ji49) : Int) (wrap64 ((rd x1_3 (ji49)) + a3)))))); refine store_event (t := 2) (p := 106) (v := ?vo_w63) (w1 := (wr.setCell ⟨go59, ((ji49) : Int).toNat, none⟩ (.int .i64 (wrap64 ((rd x1_3 (ji49)) + a3))))) ?hg ?ho ?hn ?hr ?_; (case ho => rfl); (case hg => rfl); (case hn => rfl); (case hr => first | (go_simp; done) | (go_simp; rfl)); intro w63 hw; have hg : wr.grownBy w63 (some go59) := (by rw [hw]; exact HP62.2); have hp_ : Kd.R (Kd.int .i64) 2 w63 w.heap.size (fun _ => True) (.slice (some ⟨go59, 0, none⟩) x1_3.length co60) y252 := (by rw [hw, Ny252.out]; exact HP62.1); clear HP62; have n0_ := Aside0.mk (hp_); have n1_ := Aside0.mk (blk_grown (g := gb234) (o := .cells #[.int .i64 a0_0, .int .i64 a0_1, .int .i64 a0_2, .slice (some ad249) l0_3.length c0_3] 26 (0, 0)) (by (with_reducible repeat first | refine blk_drewN ?_ _ | refine blk_drew ?_ | refine blk_alloc ?_ _); exact BK234.out) hg (Kd.R_ne HO_1.out BK234.out (by decide))); have n2_ := Aside0.mk ((by rw [hw]; exact below_set (HB.out) GB59.out : Below w.heap.size w w63)); clear HO_1; clear BK234; clear HB; have HO_1 := n0_; have BK234 := n1_; have HB := n2_; clear n0_ n1_ n2_; clear hg hw hp_)); try go_wp2_with (first | ((with_reducible refine gate_store (t := 2) (p := 106) rfl ?_); (try (rw [drewN_self wr]; generalize hq_ : World.drewN wr _ = wr; have n0_ := Aside0.mk (Kd.R_at hq_ HO_1.out); have n1_ := Aside0.mk (blk_at hq_ BK234.out); have n2_ := Aside0.mk (below_at hq_ HB.out); clear hq_ HO_1 BK234 HB; have HO_1 := n0_; have BK234 := n1_; have HB := n2_; clear n0_ n1_ n2_; (try (obtain ⟨hx59_0, hf59_0⟩ := Kd.R_celln 0 HO_1.out ((ji49) : Int) (of_eq_true p59) (of_eq_true q59))); (try (have HP62 := Kd.R_putg HO_1.out ((ji49) : Int) (wrap64 ((rd x1_3 (ji49)) + a3)))))); refine store_event (t := 2) (p := 106) (v := ?vo_w63) (w1 := (wr.setCell ⟨go59, ((ji49) : Int).toNat, none⟩ (.int .i64 (wrap64 ((rd x1_3 (ji49)) + a3))))) ?hg ?ho ?hn ?hr ?_; (case ho => rfl); (case hg => rfl); (case hn => rfl); (case hr => first | (go_simp; done) | (go_simp; rfl)); intro w63 hw; have hg : wr.grownBy w63 (some go59) := (by rw [hw]; exact HP62.2); have hp_ : Kd.R (Kd.int .i64) 2 w63 w.heap.size (fun _ => True) (.slice (some ⟨go59, 0, none⟩) x1_3.length co60) y252 := (by rw [hw, Ny252.out]; exact HP62.1); clear HP62; have n0_ := Aside0.mk (hp_); have n1_ := Aside0.mk (blk_grown (g := gb234) (o := .cells #[.int .i64 a0_0, .int .i64 a0_1, .int .i64 a0_2, .slice (some ad249) l0_3.length c0_3] 26 (0, 0)) (by (with_reducible repeat first | refine blk_drewN ?_ _ | refine blk_drew ?_ | refine blk_alloc ?_ _); exact BK234.out) hg (Kd.R_ne HO_1.out BK234.out (by decide))); have n2_ := Aside0.mk ((by rw [hw]; exact below_set (HB.out) GB59.out : Below w.heap.size w w63)); clear HO_1; clear BK234; clear HB; have HO_1 := n0_; have BK234 := n1_; have HB := n2_; clear n0_ n1_ n2_; clear hg hw hp_))))
                     go_roundg k3
                     case measure => have := HK1.out; have := HJ22.out; have := HK3.out; omega
                     case rel => exact ⟨(y252), (wrap64 (x66_3 + 1)), (by first | rfl | (simp; done) | (simp [*]; done)), H', ⟨by have := HK1.out; have := HJ22.out; have := HK3.out; omega⟩, ⟨by (with_reducible repeat first | apply Kd.R_alloc | apply Kd.R_drewN | apply Kd.R_drew); exact HO_1.out⟩, ⟨by (with_reducible repeat first | refine blk_drewN ?_ _ | refine blk_drew ?_ | refine blk_alloc ?_ _); exact BK234.out⟩, ⟨by repeat (first | (with_reducible first | exact HB.out | apply below_alloc | apply pw_below_drewN | apply below_drew1 | refine below_set ?_ GE234.out) | exact HB.out)⟩⟩
                 ·(rw [if_neg c52] at H);(exact absurd H (by simp))
                ·(rw [if_neg c51] at H);(exact absurd H (by simp))
               ·(rw [if_neg c50] at H);(exact absurd H (by simp))
             ·(rw [if_neg c32] at H);(exact absurd H (by simp))
            ·(rw [if_neg c31] at H);(exact absurd H (by simp))
           ·(rw [if_neg c30] at H);(have c30b0 : decide (x66_3 < (l2.length : Int)) = false := decide_eq_false c30);(clear c30)
            as_aux_lemma =>
             ((simp only [Option.some.injEq, Prod.mk.injEq] at H);(obtain ⟨rfl, rfl⟩ := H)); (go_wp2); (repeat (go_quiet (fail); try go_wp2)); (go_ret2); (exact ⟨_, by first | rfl | (simp [errW_none, errW_some] <;> rfl) | (simp [*, errW_none, errW_some] <;> rfl), by (with_reducible repeat first | apply Kd.R_alloc | apply Kd.R_drewN | apply Kd.R_drew); exact HO_1.out, by repeat (first | (with_reducible first | exact HB.out | apply below_alloc | apply pw_below_drewN | apply below_drew1 | refine below_set ?_ GE234.out) | exact HB.out)⟩)
 ·rw [if_neg c6] at H
  (have c6b0 : (t235 == 0) = false := beq_eq_false_iff_ne.mpr c6); (have c6b1 : (t235 != 0) = true := bne_iff_ne.mpr c6)
  as_aux_lemma =>
   ((simp only [Option.some.injEq, Prod.mk.injEq] at H);(obtain ⟨rfl, rfl⟩ := H)); (go_enter Try.func36, Try.ntmps36); (go_wp2_with (first | ((with_reducible refine gate_dst (N := 4) rfl ?_); refine box_event ?hg (N := 4) ?hd (cs := #[.int .i64 a0_0, .int .i64 a0_1, .int .i64 a0_2, .slice A0_3 l0_3.length c0_3]) (t := 26) ?hr ?_; (case hd => rfl); (case hg => rfl); (case hr => first | (go_simp; done) | (go_simp; rfl)); intro gb234 hg w64 hbox hb; have n0_ := Aside0.mk (below_step (by repeat (first | (with_reducible first | exact HB.out | apply below_alloc | apply pw_below_drewN | apply below_drew1) | exact HB.out)) hb); have n1_ := Aside0.mk (hbox); have n2_ := Aside0.mk ((by rw [hg]; exact (below_size (by repeat (first | (with_reducible first | exact HB.out | apply below_alloc | apply pw_below_drewN | apply below_drew1) | exact HB.out))) : w.heap.size ≤ gb234)); have n3_ := Aside0.mk ((by rw [hg]; exact (below_size (by repeat (first | (with_reducible first | exact HB.out | apply below_alloc | apply pw_below_drewN | apply below_drew1) | exact HB.out))) : w.heap.size ≤ gb234)); clear HB; have HB := n0_; have BK234 := n1_; have GW234 := n2_; have GE234 := n3_; clear n0_ n1_ n2_ n3_; clear hb hbox hg; have hcz65_0 : w64.cell? ⟨gb234, 0, none⟩ = some (.int .i64 a0_0) := (blk_cell BK234.out 0).trans rfl; have hcz65_1 : w64.cell? ⟨gb234, 1, none⟩ = some (.int .i64 a0_1) := (blk_cell BK234.out 1).trans rfl; have hcz65_2 : w64.cell? ⟨gb234, 2, none⟩ = some (.int .i64 a0_2) := (blk_cell BK234.out 2).trans rfl; have hcz65_3 : w64.cell? ⟨gb234, 3, none⟩ = some (.slice A0_3 l0_3.length c0_3) := (blk_cell BK234.out 3).trans rfl; have hfz65_0 := blk_frozen BK234.out 0; have hfz65_1 := blk_frozen BK234.out 1; have hfz65_2 := blk_frozen BK234.out 2; have hfz65_3 := blk_frozen BK234.out 3) | (go_at_call 34; (with_reducible refine (flow_Check.calls k a0_0 a0_1 a0_2 _ _ l0_3 _ _ l1 t235 _ ?side1 ?side2 ?side3 ?side4 A5.out).mono ?_); (case side1 => repeat (first | exact (Kd.C_below HR0_3.out HB.out) | (with_reducible refine Kd.C_alloc ?_ _) | (with_reducible refine Kd.C_drewN ?_ _) | (with_reducible refine Kd.C_drew ?_))); (case side2 => exact HC0_3.out); (case side3 => repeat (first | exact (Kd.C_below HR1.out HB.out) | (with_reducible refine Kd.C_alloc ?_ _) | (with_reducible refine Kd.C_drewN ?_ _) | (with_reducible refine Kd.C_drew ?_))); (case side4 => exact HC1.out); rintro e w66 ⟨rfl, hb⟩; have n0_ := Aside0.mk (blk_below (g := gb234) (o := .cells #[.int .i64 a0_0, .int .i64 a0_1, .int .i64 a0_2, .slice A0_3 l0_3.length c0_3] 26 (0, 0)) (by (with_reducible repeat first | refine blk_drewN ?_ _ | refine blk_drew ?_ | refine blk_alloc ?_ _); exact BK234.out) hb); have n1_ := Aside0.mk (below_step (by repeat (first | (with_reducible first | exact HB.out | apply below_alloc | apply pw_below_drewN | apply below_drew1 | refine below_set ?_ GE234.out) | exact HB.out)) hb); clear BK234; clear HB; have BK234 := n0_; have HB := n1_; clear n0_ n1_; (try clear hb)))); (go_ret2); (exact ⟨_, by first | rfl | (simp [errW_none, errW_some] <;> rfl) | (simp [*, errW_none, errW_some] <;> rfl), by first | exact Kd.R_nil _ _ _ _ _ | exact Kd.N_nil _ _ _ _ _ | exact Kd.V_nil _ _ _ _ _ | exact Kd.Q_nil _ _ _ _ _ | exact Kd.S_nil _ _ _ _ _, by repeat (first | (with_reducible first | exact HB.out | apply below_alloc | apply pw_below_drewN | apply below_drew1 | refine below_set ?_ GE234.out) | exact HB.out)⟩)
end Go.Proofs.Ytdiaedecnfbgdaa.PPlainBlocks
