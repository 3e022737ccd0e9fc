/- For the law PlainBlocks, for every input: printed by a program (wip/myprint), contracts by hand where it says MANUAL. -/
-- slim5
-- slim
import Derived.Test.YtdiaedecnfbgdaaPPlainBlocksx0
import Derived.Test.YtdiaedecnfbgdaaPPlainBlocksx21
import Derived.Test.YtdiaedecnfbgdaaPPlainBlocksx23
namespace Go.Proofs.Ytdiaedecnfbgdaa.PPlainBlocks
open Go.RowKit Go.Proofs.YtdiaedecnfbgdaaW.PrintWords Go.Proofs.YtdiaedecnfbgdaaW.PrintLast Go.Proofs.YtdiaedecnfbgdaaW.PrintMore
attribute [local go_sem] max2_int min2_int max_two min_two max_three min_three max_four min_four
set_option linter.unusedVariables false
set_option linter.unusedSimpArgs false
/-! ### racewaylaw8_routed: function 26 -/
mutual
def racewaylaw8_routed.l0 : Nat → List Int → List Int → Int → Int → Int → Int → List (S30) → Option (List Int)
 | 0, _, _, _, _, _, _, _ => none
 | k + 1, x1, x5, x6, x209000, x209001, x209002, x209003 => if x6 < (x1.length : Int) then (racewaylaw8_routed.j1 k x1 x5 x6 (decide (x6 < 8)) x209000 x209001 x209002 x209003) else (racewaylaw8_routed.j1 k x1 x5 x6 false x209000 x209001 x209002 x209003)
def racewaylaw8_routed.j1 : Nat → List Int → List Int → Int → Bool → Int → Int → Int → List (S30) → Option (List Int)
 | 0, _, _, _, _, _, _, _, _ => none
 | k + 1, x1, x5, x6, x22, x209000, x209001, x209002, x209003 => if x22 = true then (if 0 ≤ x6 then (if x6 < (x1.length : Int) then ((racewaylaw8_walked.f k x209000 x209001 x209002 x209003 x5 (rd x1 x6)).bind fun t213 => ((racewaylaw8_pick.f (rd x1 x6) 30).bind fun t217 => (racewaylaw8_routed.l1 k x1 x5 x6 t213 (wrap64 (t217 + 1)) 0 x209000 x209001 x209002 x209003))) else (none)) else (none)) else (some x5)
def racewaylaw8_routed.l1 : Nat → List Int → List Int → Int → List Int → Int → Int → Int → Int → Int → List (S30) → Option (List Int)
 | 0, _, _, _, _, _, _, _, _, _, _ => none
 | k + 1, x1, x5, x6, x7, x8, x9, x209000, x209001, x209002, x209003 => if x9 < (x7.length : Int) then (if 0 ≤ x9 then (if 0 ≤ (rd x7 x9) then (if (rd x7 x9) < (x209003.length : Int) then (if (rd x7 x9) < (x5.length : Int) then (racewaylaw8_routed.l1 k x1 x5 x6 x7 (mn x8 (wrap64 (((rd_T30 x209003 (rd x7 x9)).f2) - (rd x5 (rd x7 x9))))) (wrap64 (x9 + 1)) x209000 x209001 x209002 x209003) else (none)) else (none)) else (none)) else (none)) else (racewaylaw8_routed.l2 k x1 x5 x6 x7 x8 0 x209000 x209001 x209002 x209003)
def racewaylaw8_routed.l2 : Nat → List Int → List Int → Int → List Int → Int → Int → Int → Int → Int → List (S30) → Option (List Int)
 | 0, _, _, _, _, _, _, _, _, _, _ => none
 | k + 1, x1, x5, x6, x7, x8, x10, x209000, x209001, x209002, x209003 => if x10 < (x7.length : Int) then (if 0 ≤ x10 then (if 0 ≤ (rd x7 x10) then (if (rd x7 x10) < (x5.length : Int) then (racewaylaw8_routed.l2 k x1 (x5.set ((rd x7 x10) : Int).toNat (wrap64 ((rd x5 (rd x7 x10)) + x8))) x6 x7 x8 (wrap64 (x10 + 1)) x209000 x209001 x209002 x209003) else (none)) else (none)) else (none)) else (racewaylaw8_routed.l0 k x1 x5 (wrap64 (x6 + 1)) x209000 x209001 x209002 x209003)
end
def racewaylaw8_routed.f (k : Nat) (a0_0 : Int) (a0_1 : Int) (a0_2 : Int) (l0_3 : List (S30)) (l1 : List Int) : Option (List Int) := if 0 ≤ (l0_3.length : Int) then (if ((l0_3.length : Int) : Int).toNat ≤ 35184372088832 then (racewaylaw8_routed.l0 k l1 (List.replicate ((l0_3.length : Int) : Int).toNat 0) 0 a0_0 a0_1 a0_2 l0_3) else (none)) else (none)
theorem racewaylaw8_routed.mono_l : ∀ k, (∀ y0 y1 y2 y3 y4 y5 y6, LeO (racewaylaw8_routed.l0 k y0 y1 y2 y3 y4 y5 y6) (racewaylaw8_routed.l0 (k + 1) y0 y1 y2 y3 y4 y5 y6)) ∧ (∀ y0 y1 y2 y3 y4 y5 y6 y7, LeO (racewaylaw8_routed.j1 k y0 y1 y2 y3 y4 y5 y6 y7) (racewaylaw8_routed.j1 (k + 1) y0 y1 y2 y3 y4 y5 y6 y7)) ∧ (∀ y0 y1 y2 y3 y4 y5 y6 y7 y8 y9, LeO (racewaylaw8_routed.l1 k y0 y1 y2 y3 y4 y5 y6 y7 y8 y9) (racewaylaw8_routed.l1 (k + 1) y0 y1 y2 y3 y4 y5 y6 y7 y8 y9)) ∧ (∀ y0 y1 y2 y3 y4 y5 y6 y7 y8 y9, LeO (racewaylaw8_routed.l2 k y0 y1 y2 y3 y4 y5 y6 y7 y8 y9) (racewaylaw8_routed.l2 (k + 1) y0 y1 y2 y3 y4 y5 y6 y7 y8 y9))
 | 0 => ⟨fun _ _ _ _ _ _ _ r h => by simp [racewaylaw8_routed.l0] at h, fun _ _ _ _ _ _ _ _ r h => by simp [racewaylaw8_routed.j1] at h, fun _ _ _ _ _ _ _ _ _ _ r h => by simp [racewaylaw8_routed.l1] at h, fun _ _ _ _ _ _ _ _ _ _ r h => by simp [racewaylaw8_routed.l2] at h⟩
 | k + 1 => by
  (obtain ⟨ih0, ih1, ih2, ih3⟩ := racewaylaw8_routed.mono_l k); (refine ⟨?_, ?_, ?_, ?_⟩)
  ·intro y0 y1 y2 y3 y4 y5 y6
   unfold racewaylaw8_routed.l0
   repeat' first
   | (with_reducible exact ih0 _ _ _ _ _ _ _)
   | (with_reducible exact ih1 _ _ _ _ _ _ _ _)
   | (with_reducible exact ih2 _ _ _ _ _ _ _ _ _ _)
   | (with_reducible exact ih3 _ _ _ _ _ _ _ _ _ _)
   | (with_reducible exact racewaylaw8_walked.mono _ _ _ _ _ _ _)
   | (with_reducible exact LeO.refl _)
   | (with_reducible exact LeO.none _)
   | (with_reducible refine LeO.ite ?_ ?_)
   | (with_reducible refine LeO.bind ?_ (fun _ => ?_))
   | exact ih0 _ _ _ _ _ _ _
   | exact ih1 _ _ _ _ _ _ _ _
   | exact ih2 _ _ _ _ _ _ _ _ _ _
   | exact ih3 _ _ _ _ _ _ _ _ _ _
   | exact racewaylaw8_walked.mono _ _ _ _ _ _ _
   | exact LeO.none _
   | refine LeO.ite ?_ ?_
   | refine LeO.bind ?_ (fun _ => ?_)
  ·intro y0 y1 y2 y3 y4 y5 y6 y7
   unfold racewaylaw8_routed.j1
   repeat' first
   | (with_reducible exact ih0 _ _ _ _ _ _ _)
   | (with_reducible exact ih1 _ _ _ _ _ _ _ _)
   | (with_reducible exact ih2 _ _ _ _ _ _ _ _ _ _)
   | (with_reducible exact ih3 _ _ _ _ _ _ _ _ _ _)
   | (with_reducible exact racewaylaw8_walked.mono _ _ _ _ _ _ _)
   | (with_reducible exact LeO.refl _)
   | (with_reducible exact LeO.none _)
   | (with_reducible refine LeO.ite ?_ ?_)
   | (with_reducible refine LeO.bind ?_ (fun _ => ?_))
   | exact ih0 _ _ _ _ _ _ _
   | exact ih1 _ _ _ _ _ _ _ _
   | exact ih2 _ _ _ _ _ _ _ _ _ _
   | exact ih3 _ _ _ _ _ _ _ _ _ _
   | exact racewaylaw8_walked.mono _ _ _ _ _ _ _
   | exact LeO.none _
   | refine LeO.ite ?_ ?_
   | refine LeO.bind ?_ (fun _ => ?_)
  ·intro y0 y1 y2 y3 y4 y5 y6 y7 y8 y9
   unfold racewaylaw8_routed.l1
   repeat' first
   | (with_reducible exact ih0 _ _ _ _ _ _ _)
   | (with_reducible exact ih1 _ _ _ _ _ _ _ _)
   | (with_reducible exact ih2 _ _ _ _ _ _ _ _ _ _)
   | (with_reducible exact ih3 _ _ _ _ _ _ _ _ _ _)
   | (with_reducible exact racewaylaw8_walked.mono _ _ _ _ _ _ _)
   | (with_reducible exact LeO.refl _)
   | (with_reducible exact LeO.none _)
   | (with_reducible refine LeO.ite ?_ ?_)
   | (with_reducible refine LeO.bind ?_ (fun _ => ?_))
   | exact ih0 _ _ _ _ _ _ _
   | exact ih1 _ _ _ _ _ _ _ _
   | exact ih2 _ _ _ _ _ _ _ _ _ _
   | exact ih3 _ _ _ _ _ _ _ _ _ _
   | exact racewaylaw8_walked.mono _ _ _ _ _ _ _
   | exact LeO.none _
   | refine LeO.ite ?_ ?_
   | refine LeO.bind ?_ (fun _ => ?_)
  ·intro y0 y1 y2 y3 y4 y5 y6 y7 y8 y9
   unfold racewaylaw8_routed.l2
   repeat' first
   | (with_reducible exact ih0 _ _ _ _ _ _ _)
   | (with_reducible exact ih1 _ _ _ _ _ _ _ _)
   | (with_reducible exact ih2 _ _ _ _ _ _ _ _ _ _)
   | (with_reducible exact ih3 _ _ _ _ _ _ _ _ _ _)
   | (with_reducible exact racewaylaw8_walked.mono _ _ _ _ _ _ _)
   | (with_reducible exact LeO.refl _)
   | (with_reducible exact LeO.none _)
   | (with_reducible refine LeO.ite ?_ ?_)
   | (with_reducible refine LeO.bind ?_ (fun _ => ?_))
   | exact ih0 _ _ _ _ _ _ _
   | exact ih1 _ _ _ _ _ _ _ _
   | exact ih2 _ _ _ _ _ _ _ _ _ _
   | exact ih3 _ _ _ _ _ _ _ _ _ _
   | exact racewaylaw8_walked.mono _ _ _ _ _ _ _
   | exact LeO.none _
   | refine LeO.ite ?_ ?_
   | refine LeO.bind ?_ (fun _ => ?_)
theorem racewaylaw8_routed.mono : ∀ a0 a1 a2 a3 a4 k, LeO (racewaylaw8_routed.f k a0 a1 a2 a3 a4) (racewaylaw8_routed.f (k + 1) a0 a1 a2 a3 a4) := by
 intro a0 a1 a2 a3 a4 k; (obtain ⟨ih0, ih1, ih2, ih3⟩ := racewaylaw8_routed.mono_l k); (unfold racewaylaw8_routed.f)
 repeat' first
   | (with_reducible exact ih0 _ _ _ _ _ _ _)
   | (with_reducible exact ih1 _ _ _ _ _ _ _ _)
   | (with_reducible exact ih2 _ _ _ _ _ _ _ _ _ _)
   | (with_reducible exact ih3 _ _ _ _ _ _ _ _ _ _)
   | (with_reducible exact racewaylaw8_walked.mono _ _ _ _ _ _ _)
   | (with_reducible exact LeO.refl _)
   | (with_reducible exact LeO.none _)
   | (with_reducible refine LeO.ite ?_ ?_)
   | (with_reducible refine LeO.bind ?_ (fun _ => ?_))
   | exact ih0 _ _ _ _ _ _ _
   | exact ih1 _ _ _ _ _ _ _ _
   | exact ih2 _ _ _ _ _ _ _ _ _ _
   | exact ih3 _ _ _ _ _ _ _ _ _ _
   | exact racewaylaw8_walked.mono _ _ _ _ _ _ _
   | exact LeO.none _
   | refine LeO.ite ?_ ?_
   | refine LeO.bind ?_ (fun _ => ?_)
def racewaylaw8_routed.T5 : Bool × List (List Nat × List Nat) := (true, [([], []), ([], []), ([], []), ([], []), ([2, 3], [2, 3]), ([4], [4]), ([0, 1, 5], [0, 1, 5]), ([6, 6, 0, 1, 2, 3, 4, 5, 6], [6])])
def racewaylaw8_routed.B5 : List Nat := [0, 0, 0, 0, 12, 28, 63, 127]
theorem racewaylaw8_routed.tab5 : rtab .any (opsOf Try.f26 5) = racewaylaw8_routed.T5 := by kernel_rfl
theorem racewaylaw8_routed.bits5 : waitsOk racewaylaw8_routed.T5.2 racewaylaw8_routed.B5 = true := by kernel_rfl
def racewaylaw8_routed.T10 : Bool × List (List Nat × List Nat) := (true, [([], []), ([], []), ([1], [1]), ([], []), ([], []), ([3, 4], [3, 4]), ([5], [5]), ([2, 6], [2, 6]), ([7], [7]), ([8], [8]), ([], []), ([], []), ([], []), ([11, 12], [11, 12]), ([13], [13]), ([10, 14], [10, 14]), ([15], [15]), ([9, 16], [9, 16]), ([0, 17], [0, 17]), ([18, 0, 1, 2, 3, 4, 5, 6, 7, 8, 9, 10, 11, 12, 13, 14, 15, 16, 17, 18], [0, 18])])
def racewaylaw8_routed.B10 : List Nat := [0, 0, 2, 0, 0, 24, 56, 126, 254, 510, 0, 0, 0, 6144, 14336, 31744, 64512, 131070, 262143, 524287]
theorem racewaylaw8_routed.tab10 : rtab .any (opsOf Try.f26 10) = racewaylaw8_routed.T10 := by kernel_rfl
theorem racewaylaw8_routed.bits10 : waitsOk racewaylaw8_routed.T10.2 racewaylaw8_routed.B10 = true := by kernel_rfl
def racewaylaw8_routed.T14 : Bool × List (List Nat × List Nat) := (true, [([], []), ([], []), ([], []), ([1, 2], [1, 2]), ([3], [3]), ([], []), ([], []), ([], []), ([6, 7], [6, 7]), ([8], [8]), ([5, 9], [5, 9]), ([10], [10]), ([], []), ([11, 12], [11, 12]), ([0, 4, 0, 1, 2, 3, 4, 5, 6, 7, 8, 9, 10, 11, 12, 13], [0, 4]), ([14, 13, 0, 1, 2, 3, 4, 5, 6, 7, 8, 9, 10, 11, 12, 13], [13, 14])])
def racewaylaw8_routed.B14 : List Nat := [0, 0, 0, 6, 14, 0, 0, 0, 192, 448, 992, 2016, 0, 8160, 16383, 32767]
theorem racewaylaw8_routed.tab14 : rtab .any (opsOf Try.f26 14) = racewaylaw8_routed.T14 := by kernel_rfl
theorem racewaylaw8_routed.bits14 : waitsOk racewaylaw8_routed.T14.2 racewaylaw8_routed.B14 = true := by kernel_rfl
set_option maxHeartbeats 8000000 in
set_option maxRecDepth 100000 in
theorem racewaylaw8_routed.calls (k : Nat) (a0_0 : Int) (a0_1 : Int) (a0_2 : Int) (A0_3 : Option Addr) (c0_3 : Nat) (l0_3 : List (S30)) (A1 : Option Addr) (c1 : Nat) (l1 : List Int) (r : List Int) (w : World) (hr0_3 : Kd.C k30 w A0_3 l0_3.length l0_3) (hc0_3 : l0_3.length ≤ c0_3) (hr1 : Kd.C (Kd.int .i64) w A1 l1.length l1) (hc1 : l1.length ≤ c1) (h : racewaylaw8_routed.f k a0_0 a0_1 a0_2 l0_3 l1 = some r) :
  Calls Try.prog 26 #[.agg #[.int .i64 a0_0, .int .i64 a0_1, .int .i64 a0_2, .slice A0_3 l0_3.length c0_3], .slice A1 l1.length c1] w fun e w' => ∃ v0_ : Value, e = .returned (v0_) ∧ Kd.R (Kd.int .i64) 2 w' w.heap.size (fun _ => True) v0_ r ∧ Below w.heap.size w w' := by
 (have hu26 := Try.underlying26); (have HR0_3 := Aside0.mk hr0_3); (have HC0_3 := Aside0.mk hc0_3); clear hr0_3 hc0_3; (have HR1 := Aside0.mk hr1); (have HC1 := Aside0.mk hc1); clear hr1 hc1; (have HB := Aside0.mk (Below.refl w.heap.size w)); (have H : (if 0 ≤ (l0_3.length : Int) then (if ((l0_3.length : Int) : Int).toNat ≤ 35184372088832 then (racewaylaw8_routed.l0 k l1 (List.replicate ((l0_3.length : Int) : Int).toNat 0) 0 a0_0 a0_1 a0_2 l0_3) else (none)) else (none)) = some r := h); clear h; (by_cases c3 : 0 ≤ (l0_3.length : Int))
 ·rw [if_pos c3] at H
  (have c3b0 := eq_true c3); (have c3b1 : decide (0 ≤ (l0_3.length : Int)) = true := decide_eq_true c3); clear c3; (by_cases c4 : ((l0_3.length : Int) : Int).toNat ≤ 35184372088832)
  ·rw [if_pos c4] at H
   ((have c4b0 := eq_true c4);(have c4b1 : decide (((l0_3.length : Int) : Int).toNat ≤ 35184372088832) = true := decide_eq_true c4);(clear c4);(obtain ⟨y209, hy209⟩ : ∃ y_ : List Int, y_ = (List.replicate ((l0_3.length : Int) : Int).toNat 0) := ⟨_, rfl⟩);(replace H : (racewaylaw8_routed.l0 k l1 y209 0 a0_0 a0_1 a0_2 l0_3) = some r := by first | (rw [hy209]; with_reducible exact H) | (have H2_ := (Option.bind_some _ _).symm.trans H; rw [hy209]; with_reducible exact H2_) | (have H2_ := (Option.bind_some _ _).symm.trans H; with_reducible exact H2_) | with_reducible exact H | (rw [hy209]; exact H) | exact H);(have Ny209 := Aside0.mk hy209);(clear hy209);(have H' := Aside0.mk H);(clear H)); (go_enter Try.func26, Try.ntmps26); (go_wp2_with (first | ((with_reducible refine gate_dst (N := 2) rfl ?_); refine box_event ?hg (N := 2) ?hd (cs := #[.int .i64 a0_0, .int .i64 a0_1, .int .i64 a0_2, .slice A0_3 l0_3.length c0_3]) (t := 26) ?hr ?_; (case hd => rfl); (case hg => rfl); (case hr => first | (go_simp; done) | (go_simp; rfl)); intro gb208 hg w5 hbox hb; have n0_ := Aside0.mk (below_step (by repeat (first | (with_reducible first | exact HB.out | apply below_alloc | apply pw_below_drewN | apply below_drew1) | exact HB.out)) hb); have n1_ := Aside0.mk (hbox); have n2_ := Aside0.mk ((by rw [hg]; exact (below_size (by repeat (first | (with_reducible first | exact HB.out | apply below_alloc | apply pw_below_drewN | apply below_drew1) | exact HB.out))) : w.heap.size ≤ gb208)); have n3_ := Aside0.mk ((by rw [hg]; exact (below_size (by repeat (first | (with_reducible first | exact HB.out | apply below_alloc | apply pw_below_drewN | apply below_drew1) | exact HB.out))) : w.heap.size ≤ gb208)); clear HB; have HB := n0_; have BK208 := n1_; have GW208 := n2_; have GE208 := n3_; clear n0_ n1_ n2_ n3_; clear hb hbox hg; have hcz6_0 : w5.cell? ⟨gb208, 0, none⟩ = some (.int .i64 a0_0) := (blk_cell BK208.out 0).trans rfl; have hcz6_1 : w5.cell? ⟨gb208, 1, none⟩ = some (.int .i64 a0_1) := (blk_cell BK208.out 1).trans rfl; have hcz6_2 : w5.cell? ⟨gb208, 2, none⟩ = some (.int .i64 a0_2) := (blk_cell BK208.out 2).trans rfl; have hcz6_3 : w5.cell? ⟨gb208, 3, none⟩ = some (.slice A0_3 l0_3.length c0_3) := (blk_cell BK208.out 3).trans rfl; have hfz6_0 := blk_frozen BK208.out 0; have hfz6_1 := blk_frozen BK208.out 1; have hfz6_2 := blk_frozen BK208.out 2; have hfz6_3 := blk_frozen BK208.out 3) | ((with_reducible refine gate_dst (N := 14) rfl ?_); refine Kd.R_make (Kd.int .i64) _ 2 rfl (N := 14) rfl 27 _ _ rfl (l0_3.length : Int) rfl rfl Try.underlying27 (.int .i64 0) 8 info2 rfl (by decide) (by omega) 0 (ok := fun _ => True) (okp := fun _ => True) rfl (fun _ hk => hk) trivial (of_decide_eq_true (by first | (with_reducible assumption) | assumption)) (Nat.le_trans (Nat.mul_le_mul_right _ (of_decide_eq_true (by first | (with_reducible assumption) | assumption) : (l0_3.length : Int).toNat ≤ 35184372088832)) (by omega)) (Below.refl _ _) (Nat.le_refl _) ?_; intro v210 w7 ho8 hb hg_ hnew_; clear hg_ hnew_; (first | rw [← Ny209.out] at ho8 | (simp only [Int.reduceToNat] at ho8; rw [← Ny209.out] at ho8)); have n0_ := Aside0.mk (Kd.R_lower ho8 (below_size (by repeat (first | (with_reducible first | exact HB.out | apply below_alloc | apply pw_below_drewN | apply below_drew1 | refine below_set ?_ GE208.out) | exact HB.out)))); have n1_ := Aside0.mk (blk_below (g := gb208) (o := .cells #[.int .i64 a0_0, .int .i64 a0_1, .int .i64 a0_2, .slice A0_3 l0_3.length c0_3] 26 (0, 0)) (by (with_reducible repeat first | refine blk_drewN ?_ _ | refine blk_drew ?_ | refine blk_alloc ?_ _); exact BK208.out) hb); have n2_ := Aside0.mk (below_step (by repeat (first | (with_reducible first | exact HB.out | apply below_alloc | apply pw_below_drewN | apply below_drew1 | refine below_set ?_ GE208.out) | exact HB.out)) hb); clear BK208; clear HB; have HO211 := n0_; have BK208 := n1_; have HB := n2_; clear n0_ n1_ n2_; clear hb ho8))); (go_loopg [6] k (fun kq v6 w' => ∃ (x5_1 : List Int) (x6_1 : Int), v6 = .int .i64 x6_1 ∧ Aside0 (racewaylaw8_routed.l0 kq l1 x5_1 x6_1 a0_0 a0_1 a0_2 l0_3 = some r) ∧ Aside0 (kq ≤ k) ∧ Aside0 (Kd.R (Kd.int .i64) 2 w' w.heap.size (fun _ => True) v210 x5_1) ∧ Aside0 (w'.heap[gb208]? = some (.cells #[.int .i64 a0_0, .int .i64 a0_1, .int .i64 a0_2, (.slice A0_3 l0_3.length c0_3)] 26 (0, 0))) ∧ Aside0 (Below w.heap.size w w')))
   case atStart => exact ⟨(y209), (0), (by first | rfl | (simp; done) | (simp [*]; done)), H', ⟨Nat.le_refl _⟩, ⟨by (with_reducible repeat first | apply Kd.R_alloc | apply Kd.R_drewN | apply Kd.R_drew); exact HO211.out⟩, ⟨by (with_reducible repeat first | refine blk_drewN ?_ _ | refine blk_drew ?_ | refine blk_alloc ?_ _); exact BK208.out⟩, ⟨by repeat (first | (with_reducible first | exact HB.out | apply below_alloc | apply pw_below_drewN | apply below_drew1 | refine below_set ?_ GE208.out) | exact HB.out)⟩⟩
   case round =>
    clear H'
    try clear c1
    try clear c2
    try clear p2
    try clear c3
    try clear c3b0
    try clear c3b1
    try clear c4
    try clear c4b0
    try clear c4b1
    try clear hcz6_0
    try clear hcz6_1
    try clear hcz6_2
    try clear hcz6_3
    try clear hfz6_0
    try clear hfz6_1
    try clear hfz6_2
    try clear hfz6_3
    obtain ⟨x5_1, x6_1, rfl, HA, HK1, HO_5, BK208, HB⟩ := hrel
    cases gk with
    | zero => exact absurd HA.out (by simp [racewaylaw8_routed.l0])
    | succ k1 =>
     ((have H := HA.out);(clear HA);(simp only [racewaylaw8_routed.l0] at H);(have HC9 := Aside0.mk H);(clear H)); (go_upto_region 3 with (fail)); (go_cut [22] (fun v22 wc => ∃ (kq : Nat) (x22_8 : Bool), v22 = .bool x22_8 ∧ Aside0 (racewaylaw8_routed.j1 kq l1 x5_1 x6_1 x22_8 a0_0 a0_1 a0_2 l0_3 = some r) ∧ Aside0 (kq ≤ k1) ∧ Aside0 (Kd.R (Kd.int .i64) 2 wc w.heap.size (fun _ => True) v210 x5_1) ∧ Aside0 (wc.heap[gb208]? = some (.cells #[.int .i64 a0_0, .int .i64 a0_1, .int .i64 a0_2, (.slice A0_3 l0_3.length c0_3)] 26 (0, 0))) ∧ Aside0 (Below w.heap.size w wc)))
     case first =>
      ((have H := HC9.out);(clear HC9)); (by_cases c10 : x6_1 < (l1.length : Int))
      ·(rw [if_pos c10] at H);(have c10b0 : decide (x6_1 < (l1.length : Int)) = true := decide_eq_true c10);(clear c10);((first | rw [c10b0] | (simp only [i64_w, i32_w]; rw [c10b0]) | skip))
       as_aux_lemma =>
        ((have H' := Aside0.mk H);(clear H)); (go_wp2); (go_meet)
        case rel => exact ⟨_, (decide (x6_1 < 8)), (by first | rfl | (simp; done) | (simp [*]; done)), H', ⟨by have := HK1.out; first | omega | exact Nat.le_refl _⟩, ⟨by (with_reducible repeat first | apply Kd.R_alloc | apply Kd.R_drewN | apply Kd.R_drew); exact HO_5.out⟩, ⟨by (with_reducible repeat first | refine blk_drewN ?_ _ | refine blk_drew ?_ | refine blk_alloc ?_ _); exact BK208.out⟩, ⟨by repeat (first | (with_reducible first | exact HB.out | apply below_alloc | apply pw_below_drewN | apply below_drew1 | refine below_set ?_ GE208.out) | exact HB.out)⟩⟩
      ·(rw [if_neg c10] at H);(have c10b0 : decide (x6_1 < (l1.length : Int)) = false := decide_eq_false c10);(clear c10);((first | rw [c10b0] | (simp only [i64_w, i32_w]; rw [c10b0]) | skip))
       as_aux_lemma =>
        ((have H' := Aside0.mk H);(clear H)); (go_wp2); (go_meet)
        case rel => exact ⟨_, (false), (by first | rfl | (simp; done) | (simp [*]; done)), H', ⟨by have := HK1.out; first | omega | exact Nat.le_refl _⟩, ⟨by (with_reducible repeat first | apply Kd.R_alloc | apply Kd.R_drewN | apply Kd.R_drew); exact HO_5.out⟩, ⟨by (with_reducible repeat first | refine blk_drewN ?_ _ | refine blk_drew ?_ | refine blk_alloc ?_ _); exact BK208.out⟩, ⟨by repeat (first | (with_reducible first | exact HB.out | apply below_alloc | apply pw_below_drewN | apply below_drew1 | refine below_set ?_ GE208.out) | exact HB.out)⟩⟩
     case rest =>
      clear HC9
      try clear c1
      try clear c2
      try clear p2
      try clear c3
      try clear c3b0
      try clear c3b1
      try clear c4
      try clear c4b0
      try clear c4b1
      try clear c10
      try clear c10b0
      try clear hcz6_0
      try clear hcz6_1
      try clear hcz6_2
      try clear hcz6_3
      try clear hfz6_0
      try clear hfz6_1
      try clear hfz6_2
      try clear hfz6_3
      try clear p2
      obtain ⟨kq, x22_8, rfl, HA, HJ8, HO_5, BK208, HB⟩ := hcut
      cases kq with
      | zero => exact absurd HA.out (by simp [racewaylaw8_routed.j1])
      | succ kj8 =>
       ((have H := HA.out);(clear HA);(simp only [racewaylaw8_routed.j1] at H)); (by_cases c11 : x22_8 = true)
       ·(subst c11);(have H1 : (if 0 ≤ x6_1 then (if x6_1 < (l1.length : Int) then ((racewaylaw8_walked.f kj8 a0_0 a0_1 a0_2 l0_3 x5_1 (rd l1 x6_1)).bind fun t213 => ((racewaylaw8_pick.f (rd l1 x6_1) 30).bind fun t217 => (racewaylaw8_routed.l1 kj8 l1 x5_1 x6_1 t213 (wrap64 (t217 + 1)) 0 a0_0 a0_1 a0_2 l0_3))) else (none)) else (none)) = some r := by rw [if_pos rfl] at H; exact H);(clear H);(have H := H1);(clear H1)
        by_cases c12 : 0 ≤ x6_1
        ·(rw [if_pos c12] at H);(have c12b0 : decide (0 ≤ x6_1) = true := decide_eq_true c12);(clear c12)
         by_cases c13 : x6_1 < (l1.length : Int)
         ·(rw [if_pos c13] at H);(have c13b0 : decide (x6_1 < (l1.length : Int)) = true := decide_eq_true c13);(clear c13);(replace H := Option.bind_eq_some_iff.mp H);(obtain ⟨t213, A140, H⟩ := H);(replace H : ((racewaylaw8_pick.f (rd l1 x6_1) 30).bind fun t217 => (racewaylaw8_routed.l1 kj8 l1 x5_1 x6_1 t213 (wrap64 (t217 + 1)) 0 a0_0 a0_1 a0_2 l0_3)) = some r := H);(have A14 := Aside0.mk A140);(clear A140);(replace H := Option.bind_eq_some_iff.mp H);(obtain ⟨t217, A150, H⟩ := H);(replace H : (racewaylaw8_routed.l1 kj8 l1 x5_1 x6_1 t213 (wrap64 (t217 + 1)) 0 a0_0 a0_1 a0_2 l0_3) = some r := H);(have A15 := Aside0.mk A150);(clear A150);(have H' := Aside0.mk H);(clear H)
          try go_wp2
          ((have n0_ := Aside0.mk (Kd.R_drew HO_5.out));(have n1_ := Aside0.mk (blk_drew BK208.out));(have n2_ := Aside0.mk (below_drew1 HB.out));(clear HO_5);(clear BK208);(clear HB);(have HO_5 := n0_);(have BK208 := n1_);(have HB := n2_);(clear n0_ n1_ n2_);(have p212 : 0 ≤ (x6_1 : Int) := of_decide_eq_true (by first | (with_reducible assumption) | assumption));(have q212 : x6_1 < (l1.length : Int) := of_decide_eq_true (by first | (with_reducible assumption) | assumption));(obtain ⟨ad212, e212, hx212_0⟩ := Kd.at_int HR1.out x6_1 p212 q212);(have hw212_0 := hx212_0);(cases e212);(replace hx212_0 := (HB.out.cell (World.block_lt_of_cell? w _ hx212_0)).trans hx212_0);(replace p212 := eq_true p212);(replace q212 := eq_true q212);(obtain ⟨Ao17, co17, eo17⟩ := Kd.R_slice HO_5.out);((first | subst eo17 | (injection eo17 with f1_ f2_ f3_; have f4_ := f1_.symm; have f5_ := f3_.symm; clear f1_ f2_ f3_; subst f4_; subst f5_)));(refine start_ (n := 8) (S := fun w' => w'.cell? ⟨gb208, 0, none⟩ = some (.int .i64 a0_0) ∧ w'.cell? ⟨gb208, 1, none⟩ = some (.int .i64 a0_1) ∧ w'.cell? ⟨gb208, 2, none⟩ = some (.int .i64 a0_2) ∧ w'.cell? ⟨gb208, 3, none⟩ = some (.slice A0_3 l0_3.length c0_3) ∧ w'.cell? (ad212.add (x6_1).toNat) = some (.int .i64 (rd l1 x6_1))) (ds := []) #[F,F,F,F,F,F,F,F] (by kernel_rfl) rfl rfl ⟨(blk_cell BK208.out 0).trans rfl, (blk_cell BK208.out 1).trans rfl, (blk_cell BK208.out 2).trans rfl, (blk_cell BK208.out 3).trans rfl, ((HB.out.cell (World.block_lt_of_cell? w _ hw212_0)).trans hw212_0)⟩ (fun hHeld => ?_); refine with_tabW racewaylaw8_routed.tab5 racewaylaw8_routed.bits5 (fun HT_ HW_ => ?_));(generalize wc.drew = w16 at HO_5 BK208 HB hx212_0 hHeld ⊢);(refine pure_ (i := 1) (N := some 26) (v := ?_) (a' := ?_) #[F,T,F,F,F,F,F,F] rfl rfl (any_of HT_.out (by kernel_rfl)) (fun _ _ _ h => h) (Or.inl ⟨by rfl, ?_⟩) ?_ ?_)); rotate_left; (·intro w'; go_simp; with_reducible rfl); rotate_left; (·(simp only [Act.put, sA_, sZ_, sS_, i64_w, i32_w]); rfl); (refine pure_ (i := 2) (N := some 27) (v := ?_) (a' := ?_) #[F,T,T,F,F,F,F,F] rfl rfl (any_of HT_.out (by kernel_rfl)) (fun _ _ _ h => h) (Or.inl ⟨by rfl, ?_⟩) ?_ ?_); rotate_left; (·intro w'; go_simp; with_reducible rfl); rotate_left; (·(simp only [Act.put, sA_, sZ_, sS_, i64_w, i32_w]); rfl); (refine pure_ (i := 3) (N := some 28) (v := ?_) (a' := ?_) #[F,T,T,T,F,F,F,F] rfl rfl (any_of HT_.out (by kernel_rfl)) (fun _ _ _ h => h) (Or.inl ⟨by rfl, ?_⟩) ?_ ?_); rotate_left; (·intro w'; go_simp; with_reducible rfl); rotate_left; (·(simp only [Act.put, sA_, sZ_, sS_, i64_w, i32_w]); rfl); (refine pure_ (i := 4) (N := some 29) (v := ?_) (a' := ?_) #[F,T,T,T,T,F,F,F] rfl rfl (any_of HT_.out (by kernel_rfl)) (fun _ _ _ h => h) (Or.inl ⟨by rfl, ?_⟩) ?_ ?_); rotate_left; (·intro w'; go_simp; with_reducible rfl); rotate_left; (·(simp only [Act.put, sA_, sZ_, sS_, i64_w, i32_w]); rfl); (refine take_ (i := 0) (N := some 25) (v := ?_) (a' := ?_) #[T,T,T,T,T,F,F,F] rfl rfl (take_ofW HT_.out HW_.out (by kernel_rfl)) (fun _ _ _ h => h) (Or.inl ⟨by rfl, ?_⟩) hHeld ?_ ?_); rotate_left; (·(rintro w' ⟨s0, s1, s2, s3, s4⟩); go_simp; with_reducible rfl); rotate_left; (·(simp only [Act.put, sA_, sZ_, sS_, i64_w, i32_w]); rfl); (refine take_ (i := 5) (N := some 30) (v := ?_) (a' := ?_) #[T,T,T,T,T,T,F,F] rfl rfl (take_ofW HT_.out HW_.out (by kernel_rfl)) (fun _ _ _ h => h) (Or.inl ⟨by rfl, ?_⟩) hHeld ?_ ?_); rotate_left; (·(rintro w' ⟨s0, s1, s2, s3, s4⟩); go_simp; with_reducible rfl); rotate_left; (·(simp only [Act.put, sA_, sZ_, sS_, i64_w, i32_w]); rfl); ((refine one_ (i := 6) (N := some 31) #[T,T,T,T,T,T,T,F] rfl rfl (one_of HT_.out (by kernel_rfl)) (by decide) (fun K hK => ?_));(refine goes_ Try.func44 (by kernel_rfl) rfl #[.agg #[.int .i64 a0_0, .int .i64 a0_1, .int .i64 a0_2, .slice A0_3 l0_3.length c0_3], .slice Ao17 x5_1.length co17, .int .i64 (rd l1 x6_1)] (by rfl) rfl rfl (by (try simp only [List.map_toArray, List.map_cons, List.map_nil]); first | done | rfl | (simp only [List.length_drop, List.length_take]; rfl)) ?_)); (with_reducible refine (racewaylaw8_walked.calls kj8 a0_0 a0_1 a0_2 _ _ l0_3 _ _ x5_1 (rd l1 x6_1) t213 _ ?side1 ?side2 ?side3 ?side4 A14.out).mono ?_); (case side1 => repeat (first | exact (Kd.C_below HR0_3.out HB.out) | (with_reducible refine Kd.C_alloc ?_ _) | (with_reducible refine Kd.C_drewN ?_ _) | (with_reducible refine Kd.C_drew ?_))); (case side2 => exact HC0_3.out); (case side3 => repeat (first | exact (Kd.R_reads' HO_5.out).2.2 | (with_reducible refine Kd.C_alloc ?_ _) | (with_reducible refine Kd.C_drewN ?_ _) | (with_reducible refine Kd.C_drew ?_))); (case side4 => exact (Kd.R_reads' HO_5.out).2.1); ((rintro e w18 ⟨v214, rfl, ho0, hb⟩);(refine ⟨_, rfl, ?_⟩);(have n0_ := Aside0.mk (Kd.R_below (by (with_reducible repeat first | apply Kd.R_alloc | apply Kd.R_drewN | apply Kd.R_drew); exact HO_5.out) hb));(have n1_ := Aside0.mk (Kd.R_lower ho0 (below_size (by repeat (first | (with_reducible first | exact HB.out | apply below_alloc | apply pw_below_drewN | apply below_drew1 | refine below_set ?_ GE208.out) | exact HB.out)))));(have n2_ := Aside0.mk (blk_below (g := gb208) (o := .cells #[.int .i64 a0_0, .int .i64 a0_1, .int .i64 a0_2, .slice A0_3 l0_3.length c0_3] 26 (0, 0)) (by (with_reducible repeat first | refine blk_drewN ?_ _ | refine blk_drew ?_ | refine blk_alloc ?_ _); exact BK208.out) hb));(have n3_ := Aside0.mk (below_step (by repeat (first | (with_reducible first | exact HB.out | apply below_alloc | apply pw_below_drewN | apply below_drew1 | refine below_set ?_ GE208.out) | exact HB.out)) hb));(clear HO_5);(clear BK208);(clear HB);(have HO_5 := n0_);(have HO215 := n1_);(have BK208 := n2_);(have HB := n3_);(clear n0_ n1_ n2_ n3_);((try clear hb));((try clear hb2));((try clear hk));((try clear hi));((try clear ho0));(refine hK.out _ _ ⟨(blk_cell BK208.out 0).trans rfl, (blk_cell BK208.out 1).trans rfl, (blk_cell BK208.out 2).trans rfl, (blk_cell BK208.out 3).trans rfl, ((HB.out.cell (World.block_lt_of_cell? w _ hw212_0)).trans hw212_0)⟩ (fun hHeld => ?_));(clear hK K);(refine norm_ (a' := ?_) ?_ ?_))
          rotate_left; (·(show Act.put _ (some 31) _ = _); (simp only [Act.put, sA_, sZ_, sS_, i64_w, i32_w]); rfl); (refine pure_ (i := 7) (N := some 7) (v := ?_) (a' := ?_) #[T,T,T,T,T,T,T,T] rfl rfl (any_of HT_.out (by kernel_rfl)) (fun _ _ _ h => h) (Or.inl ⟨by rfl, ?_⟩) ?_ ?_); rotate_left; (·intro w'; go_simp; with_reducible rfl); rotate_left; (·(simp only [Act.put, sA_, sZ_, sS_, i64_w, i32_w]); rfl); ((refine done_ (done_of HT_.out (by kernel_rfl)) ?_);(have p216 : 0 ≤ (x6_1 : Int) := of_decide_eq_true (by first | (with_reducible assumption) | assumption));(have q216 : x6_1 < (l1.length : Int) := of_decide_eq_true (by first | (with_reducible assumption) | assumption));(obtain ⟨ad216, e216, hx216_0⟩ := Kd.at_int HR1.out x6_1 p216 q216);(obtain rfl : ad212 = ad216 := (by injection e216));(replace hx216_0 := (HB.out.cell (World.block_lt_of_cell? w _ hx216_0)).trans hx216_0);(replace p216 := eq_true p216);(replace q216 := eq_true q216))
          try go_wp2_with (first | ((with_reducible refine gate_callee (f := 27) rfl ?_); refine goesL_ (some 36) rfl rfl Try.func27 (by kernel_rfl) rfl #[.int .i64 (rd l1 x6_1), .int .i64 30] rfl (by (try simp only [List.map_toArray, List.map_cons, List.map_nil]); first | done | rfl | (simp only [List.length_drop, List.length_take]; rfl)) ?_; (with_reducible refine (racewaylaw8_pick.calls (rd l1 x6_1) 30 t217 _ A15.out).mono ?_); rintro e w' ⟨rfl, ⟨nd, rfl⟩⟩; refine ⟨_, rfl, ?_⟩))
          go_loopg [8, 9] kj8 (fun kq v8 v9 w' => ∃ (x8_3 : Int) (x9_3 : Int), v8 = .int .i64 x8_3 ∧ v9 = .int .i64 x9_3 ∧ Aside0 (racewaylaw8_routed.l1 kq l1 x5_1 x6_1 t213 x8_3 x9_3 a0_0 a0_1 a0_2 l0_3 = some r) ∧ Aside0 (kq ≤ kj8) ∧ Aside0 (Kd.R (Kd.int .i64) 2 w' w.heap.size (fun _ => True) (.slice Ao17 x5_1.length co17) x5_1) ∧ Aside0 (Kd.R (Kd.int .i64) 3 w' w.heap.size (fun _ => True) v214 t213) ∧ Aside0 (w'.heap[gb208]? = some (.cells #[.int .i64 a0_0, .int .i64 a0_1, .int .i64 a0_2, (.slice A0_3 l0_3.length c0_3)] 26 (0, 0))) ∧ Aside0 (Below w.heap.size w w'))
          case atStart => exact ⟨(wrap64 (t217 + 1)), (0), (by first | rfl | (simp; done) | (simp [*]; done)), (by first | rfl | (simp; done) | (simp [*]; done)), H', ⟨Nat.le_refl _⟩, ⟨by (with_reducible repeat first | apply Kd.R_alloc | apply Kd.R_drewN | apply Kd.R_drew); exact HO_5.out⟩, ⟨by (with_reducible repeat first | apply Kd.R_alloc | apply Kd.R_drewN | apply Kd.R_drew); exact HO215.out⟩, ⟨by (with_reducible repeat first | refine blk_drewN ?_ _ | refine blk_drew ?_ | refine blk_alloc ?_ _); exact BK208.out⟩, ⟨by repeat (first | (with_reducible first | exact HB.out | apply below_alloc | apply pw_below_drewN | apply below_drew1 | refine below_set ?_ GE208.out) | exact HB.out)⟩⟩
          case round =>
           clear H'
           try clear c1
           try clear c2
           try clear p2
           try clear q2
           try clear hx2
           try clear c3
           try clear c3b0
           try clear c3b1
           try clear c4
           try clear c4b0
           try clear c4b1
           try clear p6
           try clear c10
           try clear c10b0
           try clear c11
           try clear c12
           try clear c12b0
           try clear c13
           try clear c13b0
           try clear hcz6_0
           try clear hcz6_1
           try clear hcz6_2
           try clear hcz6_3
           try clear hfz6_0
           try clear hfz6_1
           try clear hfz6_2
           try clear hfz6_3
           try clear hx212_0
           try clear hx216_0
           try clear p2
           try clear p212
           try clear p216
           try clear q212
           try clear q216
           obtain ⟨x8_3, x9_3, rfl, rfl, HA, HK3, HO_5, HO_7, BK208, HB⟩ := hrel
           cases gk with
           | zero => exact absurd HA.out (by simp [racewaylaw8_routed.l1])
           | succ k3 =>
            ((have H := HA.out);(clear HA);(simp only [racewaylaw8_routed.l1] at H)); (by_cases c19 : x9_3 < (t213.length : Int))
            ·(rw [if_pos c19] at H);(have c19b0 : decide (x9_3 < (t213.length : Int)) = true := decide_eq_true c19);(clear c19)
             by_cases c20 : 0 ≤ x9_3
             ·(rw [if_pos c20] at H);(have c20b0 : decide (0 ≤ x9_3) = true := decide_eq_true c20);(clear c20)
              by_cases c21 : 0 ≤ (rd t213 x9_3)
              ·(rw [if_pos c21] at H);(have c21b0 : decide (0 ≤ (rd t213 x9_3)) = true := decide_eq_true c21);(clear c21)
               by_cases c22 : (rd t213 x9_3) < (l0_3.length : Int)
               ·(rw [if_pos c22] at H);(have c22b0 : decide ((rd t213 x9_3) < (l0_3.length : Int)) = true := decide_eq_true c22);(clear c22)
                by_cases c23 : (rd t213 x9_3) < (x5_1.length : Int)
                ·(rw [if_pos c23] at H);(have c23b0 : decide ((rd t213 x9_3) < (x5_1.length : Int)) = true := decide_eq_true c23);(clear c23);(obtain ⟨ji24, hji24⟩ : ∃ j_ : Int, (mn x8_3 (wrap64 (((rd_T30 l0_3 (rd t213 x9_3)).f2) - (rd x5_1 (rd t213 x9_3))))) = j_ := ⟨_, rfl⟩);(replace H : (racewaylaw8_routed.l1 k3 l1 x5_1 x6_1 t213 ji24 (wrap64 (x9_3 + 1)) a0_0 a0_1 a0_2 l0_3) = some r := by first | (rw [hji24] at H; exact H) | (simp only [hji24] at H ⊢; exact H));(have hji24_ : (if (wrap64 (((rd_T30 l0_3 (rd t213 x9_3)).f2) - (rd x5_1 (rd t213 x9_3)))) < x8_3 then (wrap64 (((rd_T30 l0_3 (rd t213 x9_3)).f2) - (rd x5_1 (rd t213 x9_3)))) else x8_3) = ji24 := hji24)
                 as_aux_lemma =>
                  (have H' := Aside0.mk H);(clear H);(obtain ⟨Ao25, co25, eo25⟩ := Kd.R_slice HO_7.out);(subst eo25)
                  try go_wp2
                  ((have n0_ := Aside0.mk (Kd.R_drew HO_5.out));(have n1_ := Aside0.mk (Kd.R_drew HO_7.out));(have n2_ := Aside0.mk (blk_drew BK208.out));(have n3_ := Aside0.mk (below_drew1 HB.out));(clear HO_5);(clear HO_7);(clear BK208);(clear HB);(have HO_5 := n0_);(have HO_7 := n1_);(have BK208 := n2_);(have HB := n3_);(clear n0_ n1_ n2_ n3_);(have p218 : 0 ≤ (x9_3 : Int) := of_decide_eq_true (by first | (with_reducible assumption) | assumption));(have q218 : x9_3 < (t213.length : Int) := of_decide_eq_true (by first | (with_reducible assumption) | assumption));(obtain ⟨ad218, e218, hx218_0⟩ := Kd.at_int (Kd.R_reads' HO_7.out).2.2 x9_3 p218 q218);(cases e218);(replace p218 := eq_true p218);(replace q218 := eq_true q218);(have p219 : 0 ≤ ((rd t213 x9_3) : Int) := of_decide_eq_true (by first | (with_reducible assumption) | assumption));(have q219 : (rd t213 x9_3) < (l0_3.length : Int) := of_decide_eq_true (by first | (with_reducible assumption) | assumption));(obtain ⟨ad219, e219, hx219_0, hx219_1, hx219_2⟩ := at_T30 HR0_3.out (rd t213 x9_3) p219 q219);(have hw219_2 := hx219_2);(have hw219_1 := hx219_1);(have hw219_0 := hx219_0);(cases e219);(replace hx219_0 := (HB.out.cell (World.block_lt_of_cell? w _ hx219_0)).trans hx219_0);(replace hx219_1 := (HB.out.cell (World.block_lt_of_cell? w _ hx219_1)).trans hx219_1);(replace hx219_2 := (HB.out.cell (World.block_lt_of_cell? w _ hx219_2)).trans hx219_2);(replace p219 := eq_true p219);(replace q219 := eq_true q219);(have p220 : 0 ≤ (x9_3 : Int) := of_decide_eq_true (by first | (with_reducible assumption) | assumption));(have q220 : x9_3 < (t213.length : Int) := of_decide_eq_true (by first | (with_reducible assumption) | assumption));(obtain ⟨ad220, e220, hx220_0⟩ := Kd.at_int (Kd.R_reads' HO_7.out).2.2 x9_3 p220 q220);(obtain rfl : ad218 = ad220 := (by injection e220));(replace p220 := eq_true p220);(replace q220 := eq_true q220);(have p221 : 0 ≤ ((rd t213 x9_3) : Int) := of_decide_eq_true (by first | (with_reducible assumption) | assumption));(have q221 : (rd t213 x9_3) < (x5_1.length : Int) := of_decide_eq_true (by first | (with_reducible assumption) | assumption));(obtain ⟨ad221, e221, hx221_0⟩ := Kd.at_int (Kd.R_reads' HO_5.out).2.2 (rd t213 x9_3) p221 q221);(cases e221);(replace p221 := eq_true p221);(replace q221 := eq_true q221);(refine start_ (n := 20) (S := fun w' => w'.cell? ⟨gb208, 0, none⟩ = some (.int .i64 a0_0) ∧ w'.cell? ⟨gb208, 1, none⟩ = some (.int .i64 a0_1) ∧ w'.cell? ⟨gb208, 2, none⟩ = some (.int .i64 a0_2) ∧ w'.cell? ⟨gb208, 3, none⟩ = some (.slice (some ad219) l0_3.length c0_3) ∧ w'.cell? (ad218.add (x9_3).toNat) = some (.int .i64 (rd t213 x9_3)) ∧ w'.cell? (ad219.add (((rd t213 x9_3)).toNat * 3)) = some (.int .i64 ((rd_T30 l0_3 (rd t213 x9_3)).f0)) ∧ w'.cell? ⟨(ad219.add (((rd t213 x9_3)).toNat * 3)).block, (ad219.add (((rd t213 x9_3)).toNat * 3)).off + 1, none⟩ = some (.int .i64 ((rd_T30 l0_3 (rd t213 x9_3)).f1)) ∧ w'.cell? ⟨(ad219.add (((rd t213 x9_3)).toNat * 3)).block, (ad219.add (((rd t213 x9_3)).toNat * 3)).off + 2, none⟩ = some (.int .i64 ((rd_T30 l0_3 (rd t213 x9_3)).f2)) ∧ w'.cell? (ad218.add (x9_3).toNat) = some (.int .i64 (rd t213 x9_3)) ∧ w'.cell? (ad221.add ((rd t213 x9_3)).toNat) = some (.int .i64 (rd x5_1 (rd t213 x9_3)))) (ds := []) #[F,F,F,F,F,F,F,F,F,F,F,F,F,F,F,F,F,F,F,F] (by kernel_rfl) rfl rfl ⟨(blk_cell BK208.out 0).trans rfl, (blk_cell BK208.out 1).trans rfl, (blk_cell BK208.out 2).trans rfl, (blk_cell BK208.out 3).trans rfl, hx218_0, ((HB.out.cell (World.block_lt_of_cell? w _ hw219_0)).trans hw219_0), ((HB.out.cell (World.block_lt_of_cell? w _ hw219_1)).trans hw219_1), ((HB.out.cell (World.block_lt_of_cell? w _ hw219_2)).trans hw219_2), hx220_0, hx221_0⟩ (fun hHeld => ?_); refine with_tabW racewaylaw8_routed.tab10 racewaylaw8_routed.bits10 (fun HT_ HW_ => ?_));(generalize wr.drew = w26 at HO_5 HO_7 BK208 HB hx218_0 hx219_0 hx219_1 hx219_2 hx220_0 hx221_0 hHeld ⊢);(refine pure_ (i := 0) (N := some 44) (v := ?_) (a' := ?_) #[T,F,F,F,F,F,F,F,F,F,F,F,F,F,F,F,F,F,F,F] rfl rfl (any_of HT_.out (by kernel_rfl)) (fun _ _ _ h => h) (Or.inl ⟨by rfl, ?_⟩) ?_ ?_)); rotate_left; (·intro w'; go_simp; with_reducible rfl); rotate_left; (·(simp only [Act.put, sA_, sZ_, sS_, i64_w, i32_w]); rfl); (refine pure_ (i := 1) (N := some 45) (v := ?_) (a' := ?_) #[T,T,F,F,F,F,F,F,F,F,F,F,F,F,F,F,F,F,F,F] rfl rfl (any_of HT_.out (by kernel_rfl)) (fun _ _ _ h => h) (Or.inl ⟨by rfl, ?_⟩) ?_ ?_); rotate_left; (·intro w'; go_simp; with_reducible rfl); rotate_left; (·(simp only [Act.put, sA_, sZ_, sS_, i64_w, i32_w]); rfl); (refine pure_ (i := 3) (N := some 47) (v := ?_) (a' := ?_) #[T,T,F,T,F,F,F,F,F,F,F,F,F,F,F,F,F,F,F,F] rfl rfl (any_of HT_.out (by kernel_rfl)) (fun _ _ _ h => h) (Or.inl ⟨by rfl, ?_⟩) ?_ ?_); rotate_left; (·intro w'; go_simp; with_reducible rfl); rotate_left; (·(simp only [Act.put, sA_, sZ_, sS_, i64_w, i32_w]); rfl); (refine pure_ (i := 4) (N := some 48) (v := ?_) (a' := ?_) #[T,T,F,T,T,F,F,F,F,F,F,F,F,F,F,F,F,F,F,F] rfl rfl (any_of HT_.out (by kernel_rfl)) (fun _ _ _ h => h) (Or.inl ⟨by rfl, ?_⟩) ?_ ?_); rotate_left; (·intro w'; go_simp; with_reducible rfl); rotate_left; (·(simp only [Act.put, sA_, sZ_, sS_, i64_w, i32_w]); rfl); (refine pure_ (i := 5) (N := some 49) (v := ?_) (a' := ?_) #[T,T,F,T,T,T,F,F,F,F,F,F,F,F,F,F,F,F,F,F] rfl rfl (any_of HT_.out (by kernel_rfl)) (fun _ _ _ h => h) (Or.inl ⟨by rfl, ?_⟩) ?_ ?_)
                  rotate_left; (·intro w'; go_simp; with_reducible rfl); rotate_left; (·(simp only [Act.put, sA_, sZ_, sS_, i64_w, i32_w]); rfl); (refine pure_ (i := 10) (N := some 54) (v := ?_) (a' := ?_) #[T,T,F,T,T,T,F,F,F,F,T,F,F,F,F,F,F,F,F,F] rfl rfl (any_of HT_.out (by kernel_rfl)) (fun _ _ _ h => h) (Or.inl ⟨by rfl, ?_⟩) ?_ ?_); rotate_left; (·intro w'; go_simp; with_reducible rfl); rotate_left; (·(simp only [Act.put, sA_, sZ_, sS_, i64_w, i32_w]); rfl); (refine pure_ (i := 11) (N := some 55) (v := ?_) (a' := ?_) #[T,T,F,T,T,T,F,F,F,F,T,T,F,F,F,F,F,F,F,F] rfl rfl (any_of HT_.out (by kernel_rfl)) (fun _ _ _ h => h) (Or.inl ⟨by rfl, ?_⟩) ?_ ?_); rotate_left; (·intro w'; go_simp; with_reducible rfl); rotate_left; (·(simp only [Act.put, sA_, sZ_, sS_, i64_w, i32_w]); rfl); (refine pure_ (i := 12) (N := some 56) (v := ?_) (a' := ?_) #[T,T,F,T,T,T,F,F,F,F,T,T,T,F,F,F,F,F,F,F] rfl rfl (any_of HT_.out (by kernel_rfl)) (fun _ _ _ h => h) (Or.inl ⟨by rfl, ?_⟩) ?_ ?_); rotate_left; (·intro w'; go_simp; with_reducible rfl); rotate_left; (·(simp only [Act.put, sA_, sZ_, sS_, i64_w, i32_w]); rfl); (refine pure_ (i := 13) (N := some 57) (v := ?_) (a' := ?_) #[T,T,F,T,T,T,F,F,F,F,T,T,T,T,F,F,F,F,F,F] rfl rfl (any_of HT_.out (by kernel_rfl)) (fun _ _ _ h => h) (Or.inl ⟨by rfl, ?_⟩) ?_ ?_); rotate_left; (·intro w'; go_simp; with_reducible rfl); rotate_left; (·(simp only [Act.put, sA_, sZ_, sS_, i64_w, i32_w]); rfl); (refine take_ (i := 2) (N := some 46) (v := ?_) (a' := ?_) #[T,T,T,T,T,T,F,F,F,F,T,T,T,T,F,F,F,F,F,F] rfl rfl (take_ofW HT_.out HW_.out (by kernel_rfl)) (fun _ _ _ h => h) (Or.inl ⟨by rfl, ?_⟩) hHeld ?_ ?_); rotate_left; (·(rintro w' ⟨s0, s1, s2, s3, s4, s5, s6, s7, s8, s9⟩); go_simp; with_reducible rfl); rotate_left; (·(simp only [Act.put, sA_, sZ_, sS_, i64_w, i32_w]); rfl); (refine take_ (i := 6) (N := some 50) (v := ?_) (a' := ?_) #[T,T,T,T,T,T,T,F,F,F,T,T,T,T,F,F,F,F,F,F] rfl rfl (take_ofW HT_.out HW_.out (by kernel_rfl)) (fun _ _ _ h => h) (Or.inl ⟨by rfl, ?_⟩) hHeld ?_ ?_); rotate_left; (·(rintro w' ⟨s0, s1, s2, s3, s4, s5, s6, s7, s8, s9⟩); go_simp; with_reducible rfl); rotate_left; (·(simp only [Act.put, sA_, sZ_, sS_, i64_w, i32_w]); rfl); (refine pure_ (i := 7) (N := some 51) (v := ?_) (a' := ?_) #[T,T,T,T,T,T,T,T,F,F,T,T,T,T,F,F,F,F,F,F] rfl rfl (any_of HT_.out (by kernel_rfl)) (fun _ _ _ h => h) (Or.inl ⟨by rfl, ?_⟩) ?_ ?_); rotate_left; (·intro w'; go_simp; with_reducible rfl); rotate_left; (·(simp only [Act.put, sA_, sZ_, sS_, i64_w, i32_w]); rfl); (refine pure_ (i := 8) (N := some 52) (v := ?_) (a' := ?_) #[T,T,T,T,T,T,T,T,T,F,T,T,T,T,F,F,F,F,F,F] rfl rfl (any_of HT_.out (by kernel_rfl)) (fun _ _ _ h => h) (Or.inl ⟨by rfl, ?_⟩) ?_ ?_); rotate_left; (·intro w'; go_simp; with_reducible rfl); rotate_left; (·(simp only [Act.put, sA_, sZ_, sS_, i64_w, i32_w]); rfl); (refine take_ (i := 9) (N := some 53) (v := ?_) (a' := ?_) #[T,T,T,T,T,T,T,T,T,T,T,T,T,T,F,F,F,F,F,F] rfl rfl (take_ofW HT_.out HW_.out (by kernel_rfl)) (fun _ _ _ h => h) (Or.inl ⟨by rfl, ?_⟩) hHeld ?_ ?_); rotate_left; (·(rintro w' ⟨s0, s1, s2, s3, s4, s5, s6, s7, s8, s9⟩); go_simp; with_reducible rfl); rotate_left; (·(simp only [Act.put, sA_, sZ_, sS_, i64_w, i32_w]); rfl); (refine take_ (i := 14) (N := some 58) (v := ?_) (a' := ?_) #[T,T,T,T,T,T,T,T,T,T,T,T,T,T,T,F,F,F,F,F] rfl rfl (take_ofW HT_.out HW_.out (by kernel_rfl)) (fun _ _ _ h => h) (Or.inl ⟨by rfl, ?_⟩) hHeld ?_ ?_); rotate_left; (·(rintro w' ⟨s0, s1, s2, s3, s4, s5, s6, s7, s8, s9⟩); go_simp; with_reducible rfl); rotate_left; (·(simp only [Act.put, sA_, sZ_, sS_, i64_w, i32_w]); rfl); (refine pure_ (i := 15) (N := some 59) (v := ?_) (a' := ?_) #[T,T,T,T,T,T,T,T,T,T,T,T,T,T,T,T,F,F,F,F] rfl rfl (any_of HT_.out (by kernel_rfl)) (fun _ _ _ h => h) (Or.inl ⟨by rfl, ?_⟩) ?_ ?_); rotate_left; (·intro w'; go_simp; with_reducible rfl); rotate_left; (·(simp only [Act.put, sA_, sZ_, sS_, i64_w, i32_w]); rfl); (refine take_ (i := 16) (N := some 60) (v := ?_) (a' := ?_) #[T,T,T,T,T,T,T,T,T,T,T,T,T,T,T,T,T,F,F,F] rfl rfl (take_ofW HT_.out HW_.out (by kernel_rfl)) (fun _ _ _ h => h) (Or.inl ⟨by rfl, ?_⟩) hHeld ?_ ?_); rotate_left; (·(rintro w' ⟨s0, s1, s2, s3, s4, s5, s6, s7, s8, s9⟩); go_simp; with_reducible rfl); rotate_left; (·(simp only [Act.put, sA_, sZ_, sS_, i64_w, i32_w]); rfl); (refine pure_ (i := 17) (N := some 61) (v := ?_) (a' := ?_) #[T,T,T,T,T,T,T,T,T,T,T,T,T,T,T,T,T,T,F,F] rfl rfl (any_of HT_.out (by kernel_rfl)) (fun _ _ _ h => h) (Or.inl ⟨by rfl, ?_⟩) ?_ ?_)
                  rotate_left; (·intro w'; go_simp; with_reducible rfl); rotate_left; (·(simp only [Act.put, sA_, sZ_, sS_, i64_w, i32_w]); rfl); (refine pure_ (i := 18) (N := some 62) (v := ?_) (a' := ?_) #[T,T,T,T,T,T,T,T,T,T,T,T,T,T,T,T,T,T,T,F] rfl rfl (any_of HT_.out (by kernel_rfl)) (fun _ _ _ h => h) (Or.inl ⟨by rfl, ?_⟩) ?_ ?_); rotate_left; (·intro w'; go_simp; with_reducible rfl); rotate_left; (·(simp only [Act.put, sA_, sZ_, sS_, i64_w, i32_w]); rfl); (refine pure_ (i := 19) (N := some 8) (v := ?_) (a' := ?_) #[T,T,T,T,T,T,T,T,T,T,T,T,T,T,T,T,T,T,T,T] rfl rfl (any_of HT_.out (by kernel_rfl)) (fun _ _ _ h => h) (Or.inl ⟨by rfl, ?_⟩) ?_ ?_); rotate_left; (·intro w'; go_simp; with_reducible rfl); rotate_left; (·(simp only [Act.put, sA_, sZ_, sS_, i64_w, i32_w]); rfl); (refine done_ (done_of HT_.out (by kernel_rfl)) ?_)
                  try go_wp2
                  go_roundg k3
                  case measure => have := HK1.out; have := HJ8.out; have := HK3.out; omega
                  case rel => exact ⟨(ji24), (wrap64 (x9_3 + 1)), (by first | rfl | (simp; done) | (simp only [← hji24] <;> (first | rfl | simp)) | (simp [*]; done)), (by first | rfl | (simp; done) | (simp [*]; done)), H', ⟨by have := HK1.out; have := HJ8.out; have := HK3.out; omega⟩, ⟨by (with_reducible repeat first | apply Kd.R_alloc | apply Kd.R_drewN | apply Kd.R_drew); exact HO_5.out⟩, ⟨by (with_reducible repeat first | apply Kd.R_alloc | apply Kd.R_drewN | apply Kd.R_drew); exact HO_7.out⟩, ⟨by (with_reducible repeat first | refine blk_drewN ?_ _ | refine blk_drew ?_ | refine blk_alloc ?_ _); exact BK208.out⟩, ⟨by repeat (first | (with_reducible first | exact HB.out | apply below_alloc | apply pw_below_drewN | apply below_drew1 | refine below_set ?_ GE208.out) | exact HB.out)⟩⟩
                ·(rw [if_neg c23] at H);(exact absurd H (by simp))
               ·(rw [if_neg c22] at H);(exact absurd H (by simp))
              ·(rw [if_neg c21] at H);(exact absurd H (by simp))
             ·(rw [if_neg c20] at H);(exact absurd H (by simp))
            ·(rw [if_neg c19] at H);(have c19b0 : decide (x9_3 < (t213.length : Int)) = false := decide_eq_false c19);(clear c19);(have H' := Aside0.mk H);(clear H);(obtain ⟨Ao27, co27, eo27⟩ := Kd.R_slice HO_7.out);(subst eo27)
             (go_wp2); (go_loopg [10] k3 (fun kq v10 w' => ∃ (x5_4 : List Int) (x10_4 : Int), v10 = .int .i64 x10_4 ∧ Aside0 (racewaylaw8_routed.l2 kq l1 x5_4 x6_1 t213 x8_3 x10_4 a0_0 a0_1 a0_2 l0_3 = some r) ∧ Aside0 (kq ≤ k3) ∧ Aside0 (Kd.R (Kd.int .i64) 2 w' w.heap.size (fun _ => True) (.slice Ao17 x5_1.length co17) x5_4) ∧ Aside0 (Kd.R (Kd.int .i64) 3 w' w.heap.size (fun _ => True) (.slice Ao27 t213.length co27) t213) ∧ Aside0 (w'.heap[gb208]? = some (.cells #[.int .i64 a0_0, .int .i64 a0_1, .int .i64 a0_2, (.slice A0_3 l0_3.length c0_3)] 26 (0, 0))) ∧ Aside0 (Below w.heap.size w w')))
             case atStart => exact ⟨(x5_1), (0), (by first | rfl | (simp; done) | (simp [*]; done)), H', ⟨Nat.le_refl _⟩, ⟨by (with_reducible repeat first | apply Kd.R_alloc | apply Kd.R_drewN | apply Kd.R_drew); exact HO_5.out⟩, ⟨by (with_reducible repeat first | apply Kd.R_alloc | apply Kd.R_drewN | apply Kd.R_drew); exact HO_7.out⟩, ⟨by (with_reducible repeat first | refine blk_drewN ?_ _ | refine blk_drew ?_ | refine blk_alloc ?_ _); exact BK208.out⟩, ⟨by repeat (first | (with_reducible first | exact HB.out | apply below_alloc | apply pw_below_drewN | apply below_drew1 | refine below_set ?_ GE208.out) | exact HB.out)⟩⟩
             case round =>
              clear H'
              try clear c1
              try clear c2
              try clear p2
              try clear q2
              try clear hx2
              try clear c3
              try clear c3b0
              try clear c3b1
              try clear c4
              try clear c4b0
              try clear c4b1
              try clear p6
              try clear c10
              try clear c10b0
              try clear c11
              try clear c12
              try clear c12b0
              try clear c13
              try clear c13b0
              try clear c19
              try clear c19b0
              try clear c20
              try clear c20b0
              try clear c21
              try clear c21b0
              try clear p21
              try clear q21
              try clear hx21
              try clear c22
              try clear c22b0
              try clear p22
              try clear q22
              try clear hx22
              try clear c23
              try clear c23b0
              try clear c26
              try clear c27
              try clear hcz6_0
              try clear hcz6_1
              try clear hcz6_2
              try clear hcz6_3
              try clear hfz6_0
              try clear hfz6_1
              try clear hfz6_2
              try clear hfz6_3
              try clear hx212_0
              try clear hx216_0
              try clear hx218_0
              try clear hx219_0
              try clear hx219_1
              try clear hx219_2
              try clear hx220_0
              try clear hx221_0
              try clear p2
              try clear p212
              try clear p216
              try clear p218
              try clear p219
              try clear p220
              try clear p221
              try clear p6
              try clear q2
              try clear q212
              try clear q216
              try clear q218
              try clear q219
              try clear q220
              try clear q221
              (obtain ⟨x5_4, x10_4, rfl, HA, HK4, HO_5, HO_7, BK208, HB⟩ := hrel);(have hl5_4 := (Kd.R_reads' HO_5.out).1);(rw [hl5_4] at HO_5);((try simp only [hl5_4]));((try simp only [hl5_4] at BK208));((try simp only [hl5_4] at HO_7))
              cases gk with
              | zero => exact absurd HA.out (by simp [racewaylaw8_routed.l2])
              | succ k4 =>
               ((have H := HA.out);(clear HA);(simp only [racewaylaw8_routed.l2] at H)); (by_cases c28 : x10_4 < (t213.length : Int))
               ·(rw [if_pos c28] at H);(have c28b0 : decide (x10_4 < (t213.length : Int)) = true := decide_eq_true c28);(clear c28)
                by_cases c29 : 0 ≤ x10_4
                ·(rw [if_pos c29] at H);(have c29b0 : decide (0 ≤ x10_4) = true := decide_eq_true c29);(clear c29)
                 by_cases c30 : 0 ≤ (rd t213 x10_4)
                 ·(rw [if_pos c30] at H);(have c30b0 : decide (0 ≤ (rd t213 x10_4)) = true := decide_eq_true c30);(clear c30)
                  by_cases c31 : (rd t213 x10_4) < (x5_4.length : Int)
                  ·(rw [if_pos c31] at H);(have c31b0 : decide ((rd t213 x10_4) < (x5_4.length : Int)) = true := decide_eq_true c31);(clear c31);(obtain ⟨y225, hy225⟩ : ∃ y_ : List Int, y_ = (x5_4.set ((rd t213 x10_4) : Int).toNat (wrap64 ((rd x5_4 (rd t213 x10_4)) + x8_3))) := ⟨_, rfl⟩);(replace H : (racewaylaw8_routed.l2 k4 l1 y225 x6_1 t213 x8_3 (wrap64 (x10_4 + 1)) a0_0 a0_1 a0_2 l0_3) = some r := by first | (rw [hy225]; with_reducible exact H) | (have H2_ := (Option.bind_some _ _).symm.trans H; rw [hy225]; with_reducible exact H2_) | (have H2_ := (Option.bind_some _ _).symm.trans H; with_reducible exact H2_) | with_reducible exact H | (rw [hy225]; exact H) | exact H);(have Ny225 := Aside0.mk hy225);(clear hy225)
                   as_aux_lemma =>
                    (have H' := Aside0.mk H);(clear H)
                    try go_wp2
                    ((have n0_ := Aside0.mk (Kd.R_drew HO_5.out));(have n1_ := Aside0.mk (Kd.R_drew HO_7.out));(have n2_ := Aside0.mk (blk_drew BK208.out));(have n3_ := Aside0.mk (below_drew1 HB.out));(clear HO_5);(clear HO_7);(clear BK208);(clear HB);(have HO_5 := n0_);(have HO_7 := n1_);(have BK208 := n2_);(have HB := n3_);(clear n0_ n1_ n2_ n3_);(have p222 : 0 ≤ (x10_4 : Int) := of_decide_eq_true (by first | (with_reducible assumption) | assumption));(have q222 : x10_4 < (t213.length : Int) := of_decide_eq_true (by first | (with_reducible assumption) | assumption));(obtain ⟨ad222, e222, hx222_0⟩ := Kd.at_int (Kd.R_reads' HO_7.out).2.2 x10_4 p222 q222);(cases e222);(replace p222 := eq_true p222);(replace q222 := eq_true q222);(have p223 : 0 ≤ (x10_4 : Int) := of_decide_eq_true (by first | (with_reducible assumption) | assumption));(have q223 : x10_4 < (t213.length : Int) := of_decide_eq_true (by first | (with_reducible assumption) | assumption));(obtain ⟨ad223, e223, hx223_0⟩ := Kd.at_int (Kd.R_reads' HO_7.out).2.2 x10_4 p223 q223);(obtain rfl : ad222 = ad223 := (by injection e223));(replace p223 := eq_true p223);(replace q223 := eq_true q223);(have p224 : 0 ≤ ((rd t213 x10_4) : Int) := of_decide_eq_true (by first | (with_reducible assumption) | assumption));(have q224 : (rd t213 x10_4) < (x5_4.length : Int) := of_decide_eq_true (by first | (with_reducible assumption) | assumption));(obtain ⟨ad224, e224, hx224_0⟩ := Kd.at_int (Kd.R_reads' HO_5.out).2.2 (rd t213 x10_4) p224 q224);(cases e224);(replace p224 := eq_true p224);(replace q224 := eq_true q224);(have p32 : 0 ≤ ((rd t213 x10_4) : Int) := of_decide_eq_true (by first | (with_reducible assumption) | assumption));(have q32 : ((rd t213 x10_4) : Int) < ((x5_4.length : Int) : Int) := of_decide_eq_true (by first | (with_reducible assumption) | assumption));(obtain ⟨go32, co32, eo32, gb32, gl32, cl32, HG32⟩ := Kd.R_form HO_5.out (by omega));((first | cases eo32 | (injection eo32 with ea_ en_ ec_; (first | subst ea_ | (injection ea_ with ea_; subst ea_)); subst ec_; clear en_)));(have GB32 := Aside0.mk gb32);(have GG32 := Aside0.mk HG32);(clear gb32 gl32 HG32);((first | simp only [add_plain] at hx224_0 | skip));(obtain ⟨hx32_0, hf32_0⟩ := Kd.R_celln 0 HO_5.out ((rd t213 x10_4) : Int) p32 q32);(replace p32 := eq_true p32);(replace q32 := eq_true q32);(have HP34 := Kd.R_putn HO_5.out ((rd t213 x10_4) : Int) (wrap64 ((rd x5_4 (rd t213 x10_4)) + x8_3)));(rw [← Ny225.out] at HP34);(have HQ34 := Aside0.mk HP34);(clear HP34);(refine start_ (n := 16) (S := fun w' => w'.cell? (ad222.add (x10_4).toNat) = some (.int .i64 (rd t213 x10_4)) ∧ w'.cell? (ad222.add (x10_4).toNat) = some (.int .i64 (rd t213 x10_4)) ∧ w'.cell? ⟨go32, ((rd t213 x10_4)).toNat, none⟩ = some (.int .i64 (rd x5_4 (rd t213 x10_4)))) (ds := [15]) #[F,F,F,F,F,F,F,F,F,F,F,F,F,F,F,F] (by kernel_rfl) rfl rfl ⟨hx222_0, hx223_0, hx224_0⟩ (fun hHeld => ?_); refine with_tabW racewaylaw8_routed.tab14 racewaylaw8_routed.bits14 (fun HT_ HW_ => ?_));(generalize wr.drew = w33 at HO_5 HO_7 BK208 HB GG32 HQ34 hf32_0 hx222_0 hx223_0 hx224_0 hx32_0 hHeld ⊢);(refine pure_ (i := 0) (N := some 69) (v := ?_) (a' := ?_) #[T,F,F,F,F,F,F,F,F,F,F,F,F,F,F,F] rfl rfl (any_of HT_.out (by kernel_rfl)) (fun _ _ _ h => h) (Or.inl ⟨by rfl, ?_⟩) ?_ ?_)); rotate_left; (·intro w'; go_simp; with_reducible rfl); rotate_left; (·(simp only [Act.put, sA_, sZ_, sS_, i64_w, i32_w]); rfl); (refine pure_ (i := 1) (N := some 70) (v := ?_) (a' := ?_) #[T,T,F,F,F,F,F,F,F,F,F,F,F,F,F,F] rfl rfl (any_of HT_.out (by kernel_rfl)) (fun _ _ _ h => h) (Or.inl ⟨by rfl, ?_⟩) ?_ ?_); rotate_left; (·intro w'; go_simp; with_reducible rfl); rotate_left; (·(simp only [Act.put, sA_, sZ_, sS_, i64_w, i32_w]); rfl); (refine pure_ (i := 2) (N := some 71) (v := ?_) (a' := ?_) #[T,T,T,F,F,F,F,F,F,F,F,F,F,F,F,F] rfl rfl (any_of HT_.out (by kernel_rfl)) (fun _ _ _ h => h) (Or.inl ⟨by rfl, ?_⟩) ?_ ?_); rotate_left; (·intro w'; go_simp; with_reducible rfl); rotate_left; (·(simp only [Act.put, sA_, sZ_, sS_, i64_w, i32_w]); rfl); (refine pure_ (i := 3) (N := some 72) (v := ?_) (a' := ?_) #[T,T,T,T,F,F,F,F,F,F,F,F,F,F,F,F] rfl rfl (any_of HT_.out (by kernel_rfl)) (fun _ _ _ h => h) (Or.inl ⟨by rfl, ?_⟩) ?_ ?_); rotate_left; (·intro w'; go_simp; with_reducible rfl); rotate_left; (·(simp only [Act.put, sA_, sZ_, sS_, i64_w, i32_w]); rfl); (refine pure_ (i := 5) (N := some 74) (v := ?_) (a' := ?_) #[T,T,T,T,F,T,F,F,F,F,F,F,F,F,F,F] rfl rfl (any_of HT_.out (by kernel_rfl)) (fun _ _ _ h => h) (Or.inl ⟨by rfl, ?_⟩) ?_ ?_); rotate_left; (·intro w'; go_simp; with_reducible rfl); rotate_left; (·(simp only [Act.put, sA_, sZ_, sS_, i64_w, i32_w]); rfl); (refine pure_ (i := 6) (N := some 75) (v := ?_) (a' := ?_) #[T,T,T,T,F,T,T,F,F,F,F,F,F,F,F,F] rfl rfl (any_of HT_.out (by kernel_rfl)) (fun _ _ _ h => h) (Or.inl ⟨by rfl, ?_⟩) ?_ ?_); rotate_left; (·intro w'; go_simp; with_reducible rfl); rotate_left; (·(simp only [Act.put, sA_, sZ_, sS_, i64_w, i32_w]); rfl); (refine pure_ (i := 7) (N := some 76) (v := ?_) (a' := ?_) #[T,T,T,T,F,T,T,T,F,F,F,F,F,F,F,F] rfl rfl (any_of HT_.out (by kernel_rfl)) (fun _ _ _ h => h) (Or.inl ⟨by rfl, ?_⟩) ?_ ?_); rotate_left; (·intro w'; go_simp; with_reducible rfl)
                    rotate_left; (·(simp only [Act.put, sA_, sZ_, sS_, i64_w, i32_w]); rfl); (refine pure_ (i := 8) (N := some 77) (v := ?_) (a' := ?_) #[T,T,T,T,F,T,T,T,T,F,F,F,F,F,F,F] rfl rfl (any_of HT_.out (by kernel_rfl)) (fun _ _ _ h => h) (Or.inl ⟨by rfl, ?_⟩) ?_ ?_); rotate_left; (·intro w'; go_simp; with_reducible rfl); rotate_left; (·(simp only [Act.put, sA_, sZ_, sS_, i64_w, i32_w]); rfl); (refine pure_ (i := 12) (N := some 81) (v := ?_) (a' := ?_) #[T,T,T,T,F,T,T,T,T,F,F,F,T,F,F,F] rfl rfl (any_of HT_.out (by kernel_rfl)) (fun _ _ _ h => h) (Or.inl ⟨by rfl, ?_⟩) ?_ ?_); rotate_left; (·intro w'; go_simp; with_reducible rfl); rotate_left; (·(simp only [Act.put, sA_, sZ_, sS_, i64_w, i32_w]); rfl); (refine take_ (i := 4) (N := some 73) (v := ?_) (a' := ?_) #[T,T,T,T,T,T,T,T,T,F,F,F,T,F,F,F] rfl rfl (take_ofW HT_.out HW_.out (by kernel_rfl)) (fun _ _ _ h => h) (Or.inl ⟨by rfl, ?_⟩) hHeld ?_ ?_); rotate_left; (·(rintro w' ⟨s0, s1, s2⟩); go_simp; with_reducible rfl); rotate_left; (·(simp only [Act.put, sA_, sZ_, sS_, i64_w, i32_w]); rfl); (refine take_ (i := 9) (N := some 78) (v := ?_) (a' := ?_) #[T,T,T,T,T,T,T,T,T,T,F,F,T,F,F,F] rfl rfl (take_ofW HT_.out HW_.out (by kernel_rfl)) (fun _ _ _ h => h) (Or.inl ⟨by rfl, ?_⟩) hHeld ?_ ?_); rotate_left; (·(rintro w' ⟨s0, s1, s2⟩); go_simp; with_reducible rfl); rotate_left; (·(simp only [Act.put, sA_, sZ_, sS_, i64_w, i32_w]); rfl); (refine pure_ (i := 10) (N := some 79) (v := ?_) (a' := ?_) #[T,T,T,T,T,T,T,T,T,T,T,F,T,F,F,F] rfl rfl (any_of HT_.out (by kernel_rfl)) (fun _ _ _ h => h) (Or.inl ⟨by rfl, ?_⟩) ?_ ?_); rotate_left; (·intro w'; go_simp; with_reducible rfl); rotate_left; (·(simp only [Act.put, sA_, sZ_, sS_, i64_w, i32_w]); rfl); (refine take_ (i := 11) (N := some 80) (v := ?_) (a' := ?_) #[T,T,T,T,T,T,T,T,T,T,T,T,T,F,F,F] rfl rfl (take_ofW HT_.out HW_.out (by kernel_rfl)) (fun _ _ _ h => h) (Or.inl ⟨by rfl, ?_⟩) hHeld ?_ ?_); rotate_left; (·(rintro w' ⟨s0, s1, s2⟩); go_simp; with_reducible rfl); rotate_left; (·(simp only [Act.put, sA_, sZ_, sS_, i64_w, i32_w]); rfl); (refine pure_ (i := 13) (N := some 82) (v := ?_) (a' := ?_) #[T,T,T,T,T,T,T,T,T,T,T,T,T,T,F,F] rfl rfl (any_of HT_.out (by kernel_rfl)) (fun _ _ _ h => h) (Or.inl ⟨by rfl, ?_⟩) ?_ ?_); rotate_left; (·intro w'; go_simp; with_reducible rfl); rotate_left; (·(simp only [Act.put, sA_, sZ_, sS_, i64_w, i32_w]); rfl); (refine pure_ (i := 14) (N := some 83) (v := ?_) (a' := ?_) #[T,T,T,T,T,T,T,T,T,T,T,T,T,T,T,F] rfl rfl (any_of HT_.out (by kernel_rfl)) (fun _ _ _ h => h) (Or.inl ⟨by rfl, ?_⟩) ?_ ?_); rotate_left; (·intro w'; go_simp; with_reducible rfl); rotate_left; (·(simp only [Act.put, sA_, sZ_, sS_, i64_w, i32_w]); rfl); ((refine last_ (i := 15) (N := none) #[T,T,T,T,T,T,T,T,T,T,T,T,T,T,T,T] rfl rfl (one_of HT_.out (by kernel_rfl)) (by decide) (fun K hK => ?_));(refine skip_ (w1 := ?_) (by rfl) rfl ?_ ?_)); rotate_left; (·go_simp; rfl); ((refine hK.out _ _ ?_);(clear hK K);(refine done_ (done_of HT_.out (by kernel_rfl)) ?_))
                    try go_wp2
                    (try simp only [← hl5_4]); (go_roundg k4)
                    case measure => have := HK1.out; have := HJ8.out; have := HK3.out; have := HK4.out; omega
                    case rel => exact ⟨(y225), (wrap64 (x10_4 + 1)), (by first | rfl | (simp; done) | (simp [*]; done)), H', ⟨by have := HK1.out; have := HJ8.out; have := HK3.out; have := HK4.out; omega⟩, ⟨by (try simp only [hl5_4]); (with_reducible repeat first | apply Kd.R_alloc | apply Kd.R_drewN | apply Kd.R_drew); exact HQ34.out⟩, ⟨by (try simp only [hl5_4]); (with_reducible repeat first | apply Kd.R_alloc | apply Kd.R_drewN | apply Kd.R_drew); exact Kd.R_mono (Kd.R_far (p := ⟨go32, ((rd t213 x10_4) : Int).toNat, none⟩) (Kd.R_types HO_7.out GG32.out (by decide)) (fun _ hk => hk.2) (.int .i64 (wrap64 ((rd x5_4 (rd t213 x10_4)) + x8_3)))) (fun _ hk => trivial)⟩, ⟨by (try simp only [hl5_4]); (with_reducible repeat first | refine blk_drewN ?_ _ | refine blk_drew ?_ | refine blk_alloc ?_ _); refine blk_far ?_ (by have h_ := Kd.R_ne HO_5.out BK208.out (by decide); intro e_; exact h_ (by rw [e_]; rfl)) _; (with_reducible repeat first | refine blk_drewN ?_ _ | refine blk_drew ?_ | refine blk_alloc ?_ _); exact BK208.out⟩, ⟨by repeat (first | (with_reducible first | exact HB.out | apply below_alloc | apply pw_below_drewN | apply below_drew1 | refine below_set ?_ GB32.out | refine below_set ?_ GE208.out) | exact HB.out)⟩⟩
                  ·(rw [if_neg c31] at H);(exact absurd H (by simp))
                 ·(rw [if_neg c30] at H);(exact absurd H (by simp))
                ·(rw [if_neg c29] at H);(exact absurd H (by simp))
               ·(rw [if_neg c28] at H);(have c28b0 : decide (x10_4 < (t213.length : Int)) = false := decide_eq_false c28);(clear c28)
                as_aux_lemma =>
                 ((have H' := Aside0.mk H);(clear H)); (go_wp2); (try simp only [← hl5_4]); (go_roundg k4)
                 case measure => have := HK1.out; have := HJ8.out; have := HK3.out; have := HK4.out; omega
                 case rel => exact ⟨(x5_4), (wrap64 (x6_1 + 1)), (by first | rfl | (simp; done) | (simp [*]; done)), H', ⟨by have := HK1.out; have := HJ8.out; have := HK3.out; have := HK4.out; omega⟩, ⟨by (try simp only [hl5_4]); (with_reducible repeat first | apply Kd.R_alloc | apply Kd.R_drewN | apply Kd.R_drew); exact HO_5.out⟩, ⟨by (try simp only [hl5_4]); (with_reducible repeat first | refine blk_drewN ?_ _ | refine blk_drew ?_ | refine blk_alloc ?_ _); exact BK208.out⟩, ⟨by repeat (first | (with_reducible first | exact HB.out | apply below_alloc | apply pw_below_drewN | apply below_drew1 | refine below_set ?_ GE208.out) | exact HB.out)⟩⟩
         ·(rw [if_neg c13] at H);(exact absurd H (by simp))
        ·(rw [if_neg c12] at H);(exact absurd H (by simp))
       ·(replace c11 := Bool.eq_false_iff.mpr c11);(subst c11);(have H1 : (some x5_1) = some r := by rw [if_neg (show ¬ (false = true) by decide)] at H; exact H);(clear H);(have H := H1);(clear H1)
        as_aux_lemma =>
         (obtain rfl := Option.some.inj H); (go_wp2); (go_ret); (exact ⟨_, by first | rfl | (simp [errW_none, errW_some] <;> rfl) | (simp [*, errW_none, errW_some] <;> rfl), by (with_reducible repeat first | apply Kd.R_alloc | apply Kd.R_drewN | apply Kd.R_drew); exact HO_5.out, by repeat (first | (with_reducible first | exact HB.out | apply below_alloc | apply pw_below_drewN | apply below_drew1 | refine below_set ?_ GE208.out) | exact HB.out)⟩)
  (·(rw [if_neg c4] at H); (exact absurd H (by simp)))
 (·(rw [if_neg c3] at H); (exact absurd H (by simp)))
end Go.Proofs.Ytdiaedecnfbgdaa.PPlainBlocks
