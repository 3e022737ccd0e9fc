/- For the law DecompTwice, for every input: printed by a program (wip/myprint), contracts by hand where it says MANUAL. -/
-- slim
import Derived.Test.YtnjdjnoncoeffaaPDecompTwicex0
import Derived.Test.YtnjdjnoncoeffaaPDecompTwicex20
namespace Go.Proofs.Ytnjdjnoncoeffaa.PDecompTwice
open Go.RowKit Go.Proofs.YtnjdjnoncoeffaaW.PrintWords Go.Proofs.YtnjdjnoncoeffaaW.PrintLast Go.Proofs.YtnjdjnoncoeffaaW.PrintMore
attribute [local go_sem] max2_int min2_int max_two min_two max_three min_three max_four min_four
set_option linter.unusedVariables false
set_option linter.unusedSimpArgs false
/-! ### racewaylaw15_made: function 11 -/
mutual
def racewaylaw15_made.l0 : Nat → List (S61) → Int → Int → Int → Int → List (S30) → Option (Int × Int × Int × (List (S30)))
 | 0, _, _, _, _, _, _ => none
 | k + 1, x2, x8, x142000, x142001, x142002, x142003 => if x8 < (x2.length : Int) then (racewaylaw15_made.j1 k x2 x8 (decide (x8 < 24)) x142000 x142001 x142002 x142003) else (racewaylaw15_made.j1 k x2 x8 false x142000 x142001 x142002 x142003)
def racewaylaw15_made.j1 : Nat → List (S61) → Int → Bool → Int → Int → Int → List (S30) → Option (Int × Int × Int × (List (S30)))
 | 0, _, _, _, _, _, _, _ => none
 | k + 1, x2, x8, x41, x142000, x142001, x142002, x142003 => if x41 = true then (if 0 ≤ x8 then (if x8 < (x2.length : Int) then ((racewaylaw15_pick.f ((rd_T61 x2 x8).f2) 21).bind fun t145 => ((racewaylaw15_pick.f (wrap64 (Int.tdiv ((rd_T61 x2 x8).f2) 21)) 9).bind fun t147 => (if t147 = 0 then ((racewaylaw15_pick.f ((rd_T61 x2 x8).f2) 1000000).bind fun t149 => ((racewaylaw15_pick.f ((rd_T61 x2 x8).f0) x142000).bind fun t151 => ((racewaylaw15_pick.f ((rd_T61 x2 x8).f1) x142000).bind fun t153 => (if x142003.length < 5864062014805 then (racewaylaw15_made.l0 k x2 (wrap64 (x8 + 1)) x142000 x142001 x142002 (x142003 ++ [(⟨wrap64 (1 + t151), wrap64 (1 + t153), t149⟩ : S30)])) else (none))))) else ((racewaylaw15_pick.f ((rd_T61 x2 x8).f0) x142000).bind fun t158 => ((racewaylaw15_pick.f ((rd_T61 x2 x8).f1) x142000).bind fun t160 => (if x142003.length < 5864062014805 then (racewaylaw15_made.l0 k x2 (wrap64 (x8 + 1)) x142000 x142001 x142002 (x142003 ++ [(⟨wrap64 (1 + t158), wrap64 (1 + t160), t145⟩ : S30)])) else (none))))))) else (none)) else (none)) else (some (x142000, x142001, x142002, x142003))
end
def racewaylaw15_made.f (k : Nat) (a0 : Int) (a1 : Int) (l2 : List (S61)) : Option (Int × Int × Int × (List (S30))) := (racewaylaw15_pick.f a0 8).bind fun t140 => ((racewaylaw15_pick.f a1 (wrap64 (2 + t140))).bind fun t142 => ((racewaylaw15_pick.f (wrap64 (Int.tdiv a1 16)) (wrap64 ((wrap64 (2 + t140)) - 1))).bind fun t143 => (if (wrap64 (2 + t140)) = 0 then (none) else (racewaylaw15_made.l0 k l2 0 (wrap64 (2 + t140)) (wrap64 (1 + t142)) (wrap64 (1 + (Int.tmod (wrap64 ((wrap64 (1 + t142)) + t143)) (wrap64 (2 + t140))))) ([] : List (S30))))))
theorem racewaylaw15_made.mono_l : ∀ k, (∀ y0 y1 y2 y3 y4 y5, LeO (racewaylaw15_made.l0 k y0 y1 y2 y3 y4 y5) (racewaylaw15_made.l0 (k + 1) y0 y1 y2 y3 y4 y5)) ∧ (∀ y0 y1 y2 y3 y4 y5 y6, LeO (racewaylaw15_made.j1 k y0 y1 y2 y3 y4 y5 y6) (racewaylaw15_made.j1 (k + 1) y0 y1 y2 y3 y4 y5 y6))
 | 0 => ⟨fun _ _ _ _ _ _ r h => by simp [racewaylaw15_made.l0] at h, fun _ _ _ _ _ _ _ r h => by simp [racewaylaw15_made.j1] at h⟩
 | k + 1 => by
  obtain ⟨ih0, ih1⟩ := racewaylaw15_made.mono_l k
  refine ⟨?_, ?_⟩
  ·intro y0 y1 y2 y3 y4 y5
   unfold racewaylaw15_made.l0
   repeat' first
   | (with_reducible exact ih0 _ _ _ _ _ _)
   | (with_reducible exact ih1 _ _ _ _ _ _ _)
   | (with_reducible exact LeO.refl _)
   | (with_reducible exact LeO.none _)
   | (with_reducible refine LeO.ite ?_ ?_)
   | (with_reducible refine LeO.bind ?_ (fun _ => ?_))
   | exact ih0 _ _ _ _ _ _
   | exact ih1 _ _ _ _ _ _ _
   | exact LeO.none _
   | refine LeO.ite ?_ ?_
   | refine LeO.bind ?_ (fun _ => ?_)
  ·intro y0 y1 y2 y3 y4 y5 y6
   unfold racewaylaw15_made.j1
   repeat' first
   | (with_reducible exact ih0 _ _ _ _ _ _)
   | (with_reducible exact ih1 _ _ _ _ _ _ _)
   | (with_reducible exact LeO.refl _)
   | (with_reducible exact LeO.none _)
   | (with_reducible refine LeO.ite ?_ ?_)
   | (with_reducible refine LeO.bind ?_ (fun _ => ?_))
   | exact ih0 _ _ _ _ _ _
   | exact ih1 _ _ _ _ _ _ _
   | exact LeO.none _
   | refine LeO.ite ?_ ?_
   | refine LeO.bind ?_ (fun _ => ?_)
theorem racewaylaw15_made.mono : ∀ a0 a1 a2 k, LeO (racewaylaw15_made.f k a0 a1 a2) (racewaylaw15_made.f (k + 1) a0 a1 a2) := by
 intro a0 a1 a2 k
 obtain ⟨ih0, ih1⟩ := racewaylaw15_made.mono_l k
 unfold racewaylaw15_made.f
 repeat' first
   | (with_reducible exact ih0 _ _ _ _ _ _)
   | (with_reducible exact ih1 _ _ _ _ _ _ _)
   | (with_reducible exact LeO.refl _)
   | (with_reducible exact LeO.none _)
   | (with_reducible refine LeO.ite ?_ ?_)
   | (with_reducible refine LeO.bind ?_ (fun _ => ?_))
   | exact ih0 _ _ _ _ _ _
   | exact ih1 _ _ _ _ _ _ _
   | exact LeO.none _
   | refine LeO.ite ?_ ?_
   | refine LeO.bind ?_ (fun _ => ?_)
def racewaylaw15_made.T3 : Bool × List (List Nat × List Nat) := (true, [([], []), ([0], [0]), ([], []), ([2], [2]), ([], []), ([4], [4]), ([5], [5]), ([3, 6], [3, 6]), ([1, 7], [1, 7]), ([], []), ([9], [9]), ([8, 10], [8, 10]), ([11], [11]), ([0, 1, 2, 3, 4, 5, 6, 7, 8, 9, 10, 11, 12], []), ([13, 12, 7, 0, 1, 2, 3, 4, 5, 6, 7, 8, 9, 10, 11, 12], [12, 13])])
def racewaylaw15_made.B3 : List Nat := [0, 1, 0, 4, 0, 16, 48, 124, 255, 0, 512, 2047, 4095, 8191, 16383]
theorem racewaylaw15_made.tab3 : rtab .any (opsOf Try.f11 3) = racewaylaw15_made.T3 := by kernel_rfl
theorem racewaylaw15_made.bits3 : waitsOk racewaylaw15_made.T3.2 racewaylaw15_made.B3 = true := by kernel_rfl
def racewaylaw15_made.T10 : Bool × List (List Nat × List Nat) := (true, [([], []), ([0], [0]), ([], []), ([], []), ([2, 3], [2, 3]), ([4], [4]), ([5], [5]), ([], []), ([7], [7]), ([6, 8], [6, 8]), ([9], [9]), ([], []), ([], []), ([11, 12], [11, 12]), ([13], [13]), ([14], [14]), ([], []), ([16], [16]), ([15, 17, 9], [15, 17]), ([18], [18]), ([], []), ([10, 19, 20], [10, 19, 20]), ([21], [21]), ([1, 22, 18], [1, 22]), ([0, 1, 2, 3, 4, 5, 6, 7, 8, 9, 10, 11, 12, 13, 14, 15, 16, 17, 18, 19, 20, 21, 22, 23], []), ([24, 23, 23, 0, 1, 2, 3, 4, 5, 6, 7, 8, 9, 10, 11, 12, 13, 14, 15, 16, 17, 18, 19, 20, 21, 22, 23], [23, 24])])
def racewaylaw15_made.B10 : List Nat := [0, 1, 0, 0, 12, 28, 60, 0, 128, 508, 1020, 0, 0, 6144, 14336, 30720, 0, 65536, 261116, 523260, 0, 2097148, 4194300, 8388607, 16777215, 33554431]
theorem racewaylaw15_made.tab10 : rtab .any (opsOf Try.f11 10) = racewaylaw15_made.T10 := by kernel_rfl
theorem racewaylaw15_made.bits10 : waitsOk racewaylaw15_made.T10.2 racewaylaw15_made.B10 = true := by kernel_rfl
set_option maxHeartbeats 8000000 in
set_option maxRecDepth 100000 in
theorem racewaylaw15_made.calls (k : Nat) (a0 : Int) (a1 : Int) (A2 : Option Addr) (c2 : Nat) (l2 : List (S61)) (r1 : Int) (r2 : Int) (r3 : Int) (r4 : List (S30)) (w : World) (hr2 : Kd.C k61 w A2 l2.length l2) (hc2 : l2.length ≤ c2) (h : racewaylaw15_made.f k a0 a1 l2 = some (r1, r2, r3, r4)) :
  Calls Try.prog 11 #[.int .i64 a0, .int .i64 a1, .slice A2 l2.length c2] w fun e w' => ∃ v3_ : Value, e = .returned (.agg #[.int .i64 r1, .int .i64 r2, .int .i64 r3, v3_]) ∧ Kd.R k30 30 w' w.heap.size (fun _ => True) v3_ r4 ∧ Below w.heap.size w w' := by
 have hu26 := Try.underlying26
 have hu30 := Try.underlying30
 have HR2 := Aside0.mk hr2
 have HC2 := Aside0.mk hc2
 clear hr2 hc2
 have HB := Aside0.mk (Below.refl w.heap.size w)
 have H : ((racewaylaw15_pick.f a0 8).bind fun t140 => ((racewaylaw15_pick.f a1 (wrap64 (2 + t140))).bind fun t142 => ((racewaylaw15_pick.f (wrap64 (Int.tdiv a1 16)) (wrap64 ((wrap64 (2 + t140)) - 1))).bind fun t143 => (if (wrap64 (2 + t140)) = 0 then (none) else (racewaylaw15_made.l0 k l2 0 (wrap64 (2 + t140)) (wrap64 (1 + t142)) (wrap64 (1 + (Int.tmod (wrap64 ((wrap64 (1 + t142)) + t143)) (wrap64 (2 + t140))))) ([] : List (S30))))))) = some (r1, r2, r3, r4) := h
 clear h
 replace H := Option.bind_eq_some_iff.mp H
 obtain ⟨t140, A40, H⟩ := H
 replace H : ((racewaylaw15_pick.f a1 (wrap64 (2 + t140))).bind fun t142 => ((racewaylaw15_pick.f (wrap64 (Int.tdiv a1 16)) (wrap64 ((wrap64 (2 + t140)) - 1))).bind fun t143 => (if (wrap64 (2 + t140)) = 0 then (none) else (racewaylaw15_made.l0 k l2 0 (wrap64 (2 + t140)) (wrap64 (1 + t142)) (wrap64 (1 + (Int.tmod (wrap64 ((wrap64 (1 + t142)) + t143)) (wrap64 (2 + t140))))) ([] : List (S30)))))) = some (r1, r2, r3, r4) := H
 have A4 := Aside0.mk A40
 clear A40
 replace H := Option.bind_eq_some_iff.mp H
 obtain ⟨t142, A50, H⟩ := H
 replace H : ((racewaylaw15_pick.f (wrap64 (Int.tdiv a1 16)) (wrap64 ((wrap64 (2 + t140)) - 1))).bind fun t143 => (if (wrap64 (2 + t140)) = 0 then (none) else (racewaylaw15_made.l0 k l2 0 (wrap64 (2 + t140)) (wrap64 (1 + t142)) (wrap64 (1 + (Int.tmod (wrap64 ((wrap64 (1 + t142)) + t143)) (wrap64 (2 + t140))))) ([] : List (S30))))) = some (r1, r2, r3, r4) := H
 have A5 := Aside0.mk A50
 clear A50
 replace H := Option.bind_eq_some_iff.mp H
 obtain ⟨t143, A60, H⟩ := H
 replace H : (if (wrap64 (2 + t140)) = 0 then (none) else (racewaylaw15_made.l0 k l2 0 (wrap64 (2 + t140)) (wrap64 (1 + t142)) (wrap64 (1 + (Int.tmod (wrap64 ((wrap64 (1 + t142)) + t143)) (wrap64 (2 + t140))))) ([] : List (S30)))) = some (r1, r2, r3, r4) := H
 have A6 := Aside0.mk A60
 clear A60
 by_cases c7 : (wrap64 (2 + t140)) = 0
 ·rw [if_pos c7] at H
  exact absurd H (by simp)
 ·rw [if_neg c7] at H
  have c7b0 : ((wrap64 (2 + t140)) == 0) = false := beq_eq_false_iff_ne.mpr c7
  have c7b1 : ((wrap64 (2 + t140)) != 0) = true := bne_iff_ne.mpr c7
  have H' := Aside0.mk H
  clear H
  go_enter Try.func11, Try.ntmps11
  try go_wp2_with (first | ((with_reducible refine gate_dst (N := 6) rfl ?_); refine box_event ?hg (N := 6) ?hd (cs := #[.int .i64 0, .int .i64 0, .int .i64 0, .slice none 0 0]) (t := 26) ?hr ?_; (case hd => rfl); (case hg => rfl); (case hr => first | (go_simp; done) | (go_simp; rfl)); intro gb139 hg w8 hbox hb; have n0_ := Aside0.mk (below_step (by repeat (first | (with_reducible first | exact HB.out | apply below_alloc | apply pw_below_drewN | apply below_drew1) | exact HB.out)) hb); have n1_ := Aside0.mk (hbox); have n2_ := Aside0.mk ((by rw [hg]; exact (below_size (by repeat (first | (with_reducible first | exact HB.out | apply below_alloc | apply pw_below_drewN | apply below_drew1) | exact HB.out))) : w.heap.size ≤ gb139)); have n3_ := Aside0.mk ((by rw [hg]; exact (below_size (by repeat (first | (with_reducible first | exact HB.out | apply below_alloc | apply pw_below_drewN | apply below_drew1) | exact HB.out))) : w.heap.size ≤ gb139)); clear HB; have HB := n0_; have BK139 := n1_; have GW139 := n2_; have GE139 := n3_; clear n0_ n1_ n2_ n3_; clear hb hbox hg) | ((with_reducible refine gate_callee (f := 9) rfl ?_); refine goesL_ (some 11) rfl rfl Try.func9 (by kernel_rfl) rfl #[.int .i64 a0, .int .i64 8] rfl (by (try simp only [List.map_toArray, List.map_cons, List.map_nil]); first | done | rfl | (simp only [List.length_drop, List.length_take]; rfl)) ?_; (with_reducible refine (racewaylaw15_pick.calls a0 8 t140 _ A4.out).mono ?_); rintro e w' ⟨rfl, ⟨nd, rfl⟩⟩; refine ⟨_, rfl, ?_⟩; (try (rw [drewN_self w8]; generalize hq_ : World.drewN w8 _ = w8; have n0_ : Aside0 (w8.heap[gb139]? = some (.cells #[.int .i64 0, .int .i64 0, .int .i64 0, .slice none 0 0] 26 (0, 0))) := ⟨by rw [← hq_]; exact (by (with_reducible repeat first | refine blk_drewN ?_ _ | refine blk_drew ?_ | refine blk_alloc ?_ _); exact BK139.out)⟩; have n1_ : Aside0 (Below w.heap.size w w8) := ⟨by rw [← hq_]; exact (by repeat (first | (with_reducible first | exact HB.out | apply below_alloc | apply pw_below_drewN | apply below_drew1 | refine below_set ?_ GE139.out) | exact HB.out))⟩; clear BK139 HB hq_; have BK139 := n0_; have HB := n1_; clear n0_ n1_; have hcqBK139_0 : w8.cell? ⟨gb139, 0, none⟩ = some (.int .i64 0) := (blk_cell BK139.out 0).trans rfl; have hfqBK139_0 := blk_frozen BK139.out 0; have hcqBK139_1 : w8.cell? ⟨gb139, 1, none⟩ = some (.int .i64 0) := (blk_cell BK139.out 1).trans rfl; have hfqBK139_1 := blk_frozen BK139.out 1; have hcqBK139_2 : w8.cell? ⟨gb139, 2, none⟩ = some (.int .i64 0) := (blk_cell BK139.out 2).trans rfl; have hfqBK139_2 := blk_frozen BK139.out 2; have hcqBK139_3 : w8.cell? ⟨gb139, 3, none⟩ = some (.slice none 0 0) := (blk_cell BK139.out 3).trans rfl; have hfqBK139_3 := blk_frozen BK139.out 3))) | ((with_reducible refine gate_dst (N := 7) rfl ?_); refine box_event ?hg (N := 7) ?hd (cs := #[.int .i64 0, .int .i64 0, .int .i64 0, .slice none 0 0]) (t := 26) ?hr ?_; (case hd => rfl); (case hg => rfl); (case hr => first | (go_simp; done) | (go_simp; rfl)); intro gb141 hg w9 hbox hb; have n0_ := Aside0.mk (blk_below (g := gb139) (o := .cells #[.int .i64 0, .int .i64 0, .int .i64 0, .slice none 0 0] 26 (0, 0)) (by (with_reducible repeat first | refine blk_drewN ?_ _ | refine blk_drew ?_ | refine blk_alloc ?_ _); exact BK139.out) hb); have n1_ := Aside0.mk (below_step (by repeat (first | (with_reducible first | exact HB.out | apply below_alloc | apply pw_below_drewN | apply below_drew1 | refine below_set ?_ GE139.out) | exact HB.out)) hb); have n2_ := Aside0.mk (hbox); have n3_ := Aside0.mk ((by rw [hg]; exact (below_size (by repeat (first | (with_reducible first | exact HB.out | apply below_alloc | apply pw_below_drewN | apply below_drew1 | refine below_set ?_ GE139.out) | exact HB.out))) : w.heap.size ≤ gb141)); have n4_ := Aside0.mk ((by rw [hg]; exact (below_size (by repeat (first | (with_reducible first | exact HB.out | apply below_alloc | apply pw_below_drewN | apply below_drew1 | refine below_set ?_ GE139.out) | exact HB.out))) : w.heap.size ≤ gb141)); have n5_ := Aside0.mk ((by rw [hg]; exact Nat.ne_of_lt (blk_lt (g := gb139) (o := .cells #[.int .i64 0, .int .i64 0, .int .i64 0, .slice none 0 0] 26 (0, 0)) (by (with_reducible repeat first | refine blk_drewN ?_ _ | refine blk_drew ?_ | refine blk_alloc ?_ _); exact BK139.out)) : gb139 ≠ gb141)); have n6_ := Aside0.mk ((by rw [hg]; exact Nat.ne_of_gt (blk_lt (g := gb139) (o := .cells #[.int .i64 0, .int .i64 0, .int .i64 0, .slice none 0 0] 26 (0, 0)) (by (with_reducible repeat first | refine blk_drewN ?_ _ | refine blk_drew ?_ | refine blk_alloc ?_ _); exact BK139.out)) : gb141 ≠ gb139)); clear BK139; clear HB; have BK139 := n0_; have HB := n1_; have BK141 := n2_; have GW141 := n3_; have GE141 := n4_; have NB139_141 := n5_; have NB141_139 := n6_; clear n0_ n1_ n2_ n3_ n4_ n5_ n6_; clear hb hbox hg; have hnb10 := NB141_139.out; have hnc10 := NB139_141.out; have hcz11_0 : w9.cell? ⟨gb141, 0, none⟩ = some (.int .i64 0) := (blk_cell BK141.out 0).trans rfl; have hcz11_1 : w9.cell? ⟨gb141, 1, none⟩ = some (.int .i64 0) := (blk_cell BK141.out 1).trans rfl; have hcz11_2 : w9.cell? ⟨gb141, 2, none⟩ = some (.int .i64 0) := (blk_cell BK141.out 2).trans rfl; have hcz11_3 : w9.cell? ⟨gb141, 3, none⟩ = some (.slice none 0 0) := (blk_cell BK141.out 3).trans rfl; have hfz11_0 := blk_frozen BK141.out 0; have hfz11_1 := blk_frozen BK141.out 1; have hfz11_2 := blk_frozen BK141.out 2; have hfz11_3 := blk_frozen BK141.out 3) | ((with_reducible refine gate_callee (f := 9) rfl ?_); refine goesL_ (some 17) rfl rfl Try.func9 (by kernel_rfl) rfl #[.int .i64 a1, .int .i64 (wrap64 (2 + t140))] rfl (by (try simp only [List.map_toArray, List.map_cons, List.map_nil]); first | done | rfl | (simp only [List.length_drop, List.length_take]; rfl)) ?_; (with_reducible refine (racewaylaw15_pick.calls a1 (wrap64 (2 + t140)) t142 _ A5.out).mono ?_); rintro e w' ⟨rfl, ⟨nd, rfl⟩⟩; refine ⟨_, rfl, ?_⟩))
  have n0_ : Aside0 ((((((w9.setCell ⟨gb141, 0, none⟩ (.int .i64 (wrap64 (2 + t140)))).setCell ⟨gb141, 1, none⟩ (.int .i64 0)).setCell ⟨gb141, 2, none⟩ (.int .i64 0)).setCell ⟨gb141, 3, none⟩ (.slice none 0 0)).setCell ⟨gb141, 1, none⟩ (.int .i64 (wrap64 (1 + t142)))).heap[gb139]? = some (.cells #[.int .i64 0, .int .i64 0, .int .i64 0, .slice none 0 0] 26 (0, 0))) := ⟨by (with_reducible repeat first | refine blk_drewN ?_ _ | refine blk_drew ?_ | refine blk_alloc ?_ _); refine blk_far ?_ NB139_141.out _; (with_reducible repeat first | refine blk_drewN ?_ _ | refine blk_drew ?_ | refine blk_alloc ?_ _); refine blk_far ?_ NB139_141.out _; (with_reducible repeat first | refine blk_drewN ?_ _ | refine blk_drew ?_ | refine blk_alloc ?_ _); refine blk_far ?_ NB139_141.out _; (with_reducible repeat first | refine blk_drewN ?_ _ | refine blk_drew ?_ | refine blk_alloc ?_ _); refine blk_far ?_ NB139_141.out _; (with_reducible repeat first | refine blk_drewN ?_ _ | refine blk_drew ?_ | refine blk_alloc ?_ _); refine blk_far ?_ NB139_141.out _; (with_reducible repeat first | refine blk_drewN ?_ _ | refine blk_drew ?_ | refine blk_alloc ?_ _); exact BK139.out⟩
  have n1_ : Aside0 ((((((w9.setCell ⟨gb141, 0, none⟩ (.int .i64 (wrap64 (2 + t140)))).setCell ⟨gb141, 1, none⟩ (.int .i64 0)).setCell ⟨gb141, 2, none⟩ (.int .i64 0)).setCell ⟨gb141, 3, none⟩ (.slice none 0 0)).setCell ⟨gb141, 1, none⟩ (.int .i64 (wrap64 (1 + t142)))).heap[gb141]? = some (.cells #[.int .i64 (wrap64 (2 + t140)), .int .i64 (wrap64 (1 + t142)), .int .i64 0, .slice none 0 0] 26 (0, 0))) := ⟨by (with_reducible repeat first | refine blk_drewN ?_ _ | refine blk_drew ?_ | refine blk_alloc ?_ _); refine blk_put (cs := #[.int .i64 (wrap64 (2 + t140)), .int .i64 0, .int .i64 0, .slice none 0 0]) ?_ 1 _ rfl; (with_reducible repeat first | refine blk_drewN ?_ _ | refine blk_drew ?_ | refine blk_alloc ?_ _); refine blk_put (cs := #[.int .i64 (wrap64 (2 + t140)), .int .i64 0, .int .i64 0, .slice none 0 0]) ?_ 3 _ rfl; (with_reducible repeat first | refine blk_drewN ?_ _ | refine blk_drew ?_ | refine blk_alloc ?_ _); refine blk_put (cs := #[.int .i64 (wrap64 (2 + t140)), .int .i64 0, .int .i64 0, .slice none 0 0]) ?_ 2 _ rfl; (with_reducible repeat first | refine blk_drewN ?_ _ | refine blk_drew ?_ | refine blk_alloc ?_ _); refine blk_put (cs := #[.int .i64 (wrap64 (2 + t140)), .int .i64 0, .int .i64 0, .slice none 0 0]) ?_ 1 _ rfl; (with_reducible repeat first | refine blk_drewN ?_ _ | refine blk_drew ?_ | refine blk_alloc ?_ _); refine blk_put (cs := #[.int .i64 0, .int .i64 0, .int .i64 0, .slice none 0 0]) ?_ 0 _ rfl; (with_reducible repeat first | refine blk_drewN ?_ _ | refine blk_drew ?_ | refine blk_alloc ?_ _); exact BK141.out⟩
  have n2_ : Aside0 (Below w.heap.size w (((((w9.setCell ⟨gb141, 0, none⟩ (.int .i64 (wrap64 (2 + t140)))).setCell ⟨gb141, 1, none⟩ (.int .i64 0)).setCell ⟨gb141, 2, none⟩ (.int .i64 0)).setCell ⟨gb141, 3, none⟩ (.slice none 0 0)).setCell ⟨gb141, 1, none⟩ (.int .i64 (wrap64 (1 + t142))))) := ⟨by repeat (first | (with_reducible first | exact HB.out | apply below_alloc | apply pw_below_drewN | apply below_drew1 | refine below_set ?_ GE139.out | refine below_set ?_ GE141.out) | exact HB.out)⟩
  (try clear BK139)
  (try clear BK141)
  (try clear HB)
  (try simp only [Go.Proofs.YtnjdjnoncoeffaaW.MyOpen.setCell_drewN_out])
  generalize (((((w9.setCell ⟨gb141, 0, none⟩ (.int .i64 (wrap64 (2 + t140)))).setCell ⟨gb141, 1, none⟩ (.int .i64 0)).setCell ⟨gb141, 2, none⟩ (.int .i64 0)).setCell ⟨gb141, 3, none⟩ (.slice none 0 0)).setCell ⟨gb141, 1, none⟩ (.int .i64 (wrap64 (1 + t142)))) = w12 at n0_ n1_ n2_ ⊢
  have BK139 := n0_
  have BK141 := n1_
  have HB := n2_
  clear n0_ n1_ n2_
  (try (rw [drewN_self w12]; generalize hq_ : World.drewN w12 _ = w12; have n0_ : Aside0 (w12.heap[gb139]? = some (.cells #[.int .i64 0, .int .i64 0, .int .i64 0, .slice none 0 0] 26 (0, 0))) := ⟨by rw [← hq_]; exact (by (with_reducible repeat first | refine blk_drewN ?_ _ | refine blk_drew ?_ | refine blk_alloc ?_ _); exact BK139.out)⟩; have n1_ : Aside0 (w12.heap[gb141]? = some (.cells #[.int .i64 (wrap64 (2 + t140)), .int .i64 (wrap64 (1 + t142)), .int .i64 0, .slice none 0 0] 26 (0, 0))) := ⟨by rw [← hq_]; exact (by (with_reducible repeat first | refine blk_drewN ?_ _ | refine blk_drew ?_ | refine blk_alloc ?_ _); exact BK141.out)⟩; have n2_ : Aside0 (Below w.heap.size w w12) := ⟨by rw [← hq_]; exact (by repeat (first | (with_reducible first | exact HB.out | apply below_alloc | apply pw_below_drewN | apply below_drew1 | refine below_set ?_ GE139.out | refine below_set ?_ GE141.out) | exact HB.out))⟩; clear BK139 BK141 HB hq_; have BK139 := n0_; have BK141 := n1_; have HB := n2_; clear n0_ n1_ n2_; have hcqBK139_0 : w12.cell? ⟨gb139, 0, none⟩ = some (.int .i64 0) := (blk_cell BK139.out 0).trans rfl; have hfqBK139_0 := blk_frozen BK139.out 0; have hcqBK139_1 : w12.cell? ⟨gb139, 1, none⟩ = some (.int .i64 0) := (blk_cell BK139.out 1).trans rfl; have hfqBK139_1 := blk_frozen BK139.out 1; have hcqBK139_2 : w12.cell? ⟨gb139, 2, none⟩ = some (.int .i64 0) := (blk_cell BK139.out 2).trans rfl; have hfqBK139_2 := blk_frozen BK139.out 2; have hcqBK139_3 : w12.cell? ⟨gb139, 3, none⟩ = some (.slice none 0 0) := (blk_cell BK139.out 3).trans rfl; have hfqBK139_3 := blk_frozen BK139.out 3; have hcqBK141_0 : w12.cell? ⟨gb141, 0, none⟩ = some (.int .i64 (wrap64 (2 + t140))) := (blk_cell BK141.out 0).trans rfl; have hfqBK141_0 := blk_frozen BK141.out 0; have hcqBK141_1 : w12.cell? ⟨gb141, 1, none⟩ = some (.int .i64 (wrap64 (1 + t142))) := (blk_cell BK141.out 1).trans rfl; have hfqBK141_1 := blk_frozen BK141.out 1; have hcqBK141_2 : w12.cell? ⟨gb141, 2, none⟩ = some (.int .i64 0) := (blk_cell BK141.out 2).trans rfl; have hfqBK141_2 := blk_frozen BK141.out 2; have hcqBK141_3 : w12.cell? ⟨gb141, 3, none⟩ = some (.slice none 0 0) := (blk_cell BK141.out 3).trans rfl; have hfqBK141_3 := blk_frozen BK141.out 3))
  have n0_ := Aside0.mk (blk_drew BK139.out)
  have n1_ := Aside0.mk (blk_drew BK141.out)
  have n2_ := Aside0.mk (below_drew1 HB.out)
  clear BK139
  clear BK141
  clear HB
  have BK139 := n0_
  have BK141 := n1_
  have HB := n2_
  clear n0_ n1_ n2_
  refine start_ (n := 15) (S := fun w' => w'.cell? ⟨gb141, 0, none⟩ = some (.int .i64 (wrap64 (2 + t140))) ∧ w'.cell? ⟨gb141, 1, none⟩ = some (.int .i64 (wrap64 (1 + t142))) ∧ w'.cell? ⟨gb141, 2, none⟩ = some (.int .i64 0) ∧ w'.cell? ⟨gb141, 3, none⟩ = some (.slice none 0 0)) (ds := [14]) #[false, false, false, false, false, false, false, false, false, false, false, false, false, false, false] (by kernel_rfl) rfl rfl ⟨(blk_cell BK141.out 0).trans rfl, (blk_cell BK141.out 1).trans rfl, (blk_cell BK141.out 2).trans rfl, (blk_cell BK141.out 3).trans rfl⟩ (fun hHeld => ?_); refine with_tabW racewaylaw15_made.tab3 racewaylaw15_made.bits3 (fun HT_ HW_ => ?_)
  generalize w12.drew = w13 at BK139 BK141 HB hHeld ⊢
  refine pure_ (i := 0) (N := some 20) (v := ?_) (a' := ?_) #[true, false, false, false, false, false, false, false, false, false, false, false, false, false, false] rfl rfl (any_of HT_.out (by kernel_rfl)) (fun _ _ _ h => h) (Or.inl ⟨by rfl, ?_⟩) ?_ ?_
  rotate_left
  ·intro w'
   go_simp
   with_reducible rfl
  rotate_left
  ·simp only [Act.put, List.setIfInBounds_toArray, List.set_cons_zero, List.set_cons_succ, i64_w, i32_w]
   rfl
  refine pure_ (i := 2) (N := some 22) (v := ?_) (a' := ?_) #[true, false, true, false, false, false, false, false, false, false, false, false, false, false, false] rfl rfl (any_of HT_.out (by kernel_rfl)) (fun _ _ _ h => h) (Or.inl ⟨by rfl, ?_⟩) ?_ ?_
  rotate_left
  ·intro w'
   go_simp
   with_reducible rfl
  rotate_left
  ·simp only [Act.put, List.setIfInBounds_toArray, List.set_cons_zero, List.set_cons_succ, i64_w, i32_w]
   rfl
  refine pure_ (i := 3) (N := some 23) (v := ?_) (a' := ?_) #[true, false, true, true, false, false, false, false, false, false, false, false, false, false, false] rfl rfl (any_of HT_.out (by kernel_rfl)) (fun _ _ _ h => h) (Or.inl ⟨by rfl, ?_⟩) ?_ ?_
  rotate_left
  ·intro w'
   go_simp
   with_reducible rfl
  rotate_left
  ·simp only [Act.put, List.setIfInBounds_toArray, List.set_cons_zero, List.set_cons_succ, i64_w, i32_w]
   rfl
  refine pure_ (i := 4) (N := some 24) (v := ?_) (a' := ?_) #[true, false, true, true, true, false, false, false, false, false, false, false, false, false, false] rfl rfl (any_of HT_.out (by kernel_rfl)) (fun _ _ _ h => h) (Or.inl ⟨by rfl, ?_⟩) ?_ ?_
  rotate_left
  ·intro w'
   go_simp
   with_reducible rfl
  rotate_left
  ·simp only [Act.put, List.setIfInBounds_toArray, List.set_cons_zero, List.set_cons_succ, i64_w, i32_w]
   rfl
  refine pure_ (i := 9) (N := some 29) (v := ?_) (a' := ?_) #[true, false, true, true, true, false, false, false, false, true, false, false, false, false, false] rfl rfl (any_of HT_.out (by kernel_rfl)) (fun _ _ _ h => h) (Or.inl ⟨by rfl, ?_⟩) ?_ ?_
  rotate_left
  ·intro w'
   go_simp
   with_reducible rfl
  rotate_left
  ·simp only [Act.put, List.setIfInBounds_toArray, List.set_cons_zero, List.set_cons_succ, i64_w, i32_w]
   rfl
  refine take_ (i := 1) (N := some 21) (v := ?_) (a' := ?_) #[true, true, true, true, true, false, false, false, false, true, false, false, false, false, false] rfl rfl (take_ofW HT_.out HW_.out (by kernel_rfl)) (fun _ _ _ h => h) (Or.inl ⟨by rfl, ?_⟩) hHeld ?_ ?_
  rotate_left
  ·rintro w' ⟨s0, s1, s2, s3⟩
   go_simp
   with_reducible rfl
  rotate_left
  ·simp only [Act.put, List.setIfInBounds_toArray, List.set_cons_zero, List.set_cons_succ, i64_w, i32_w]
   rfl
  refine take_ (i := 5) (N := some 25) (v := ?_) (a' := ?_) #[true, true, true, true, true, true, false, false, false, true, false, false, false, false, false] rfl rfl (take_ofW HT_.out HW_.out (by kernel_rfl)) (fun _ _ _ h => h) (Or.inl ⟨by rfl, ?_⟩) hHeld ?_ ?_
  rotate_left
  ·rintro w' ⟨s0, s1, s2, s3⟩
   go_simp
   with_reducible rfl
  rotate_left
  ·simp only [Act.put, List.setIfInBounds_toArray, List.set_cons_zero, List.set_cons_succ, i64_w, i32_w]
   rfl
  refine pure_ (i := 6) (N := some 26) (v := ?_) (a' := ?_) #[true, true, true, true, true, true, true, false, false, true, false, false, false, false, false] rfl rfl (any_of HT_.out (by kernel_rfl)) (fun _ _ _ h => h) (Or.inl ⟨by rfl, ?_⟩) ?_ ?_
  rotate_left
  ·intro w'
   go_simp
   with_reducible rfl
  rotate_left
  ·simp only [Act.put, List.setIfInBounds_toArray, List.set_cons_zero, List.set_cons_succ, i64_w, i32_w]
   rfl
  refine take_ (i := 10) (N := some 30) (v := ?_) (a' := ?_) #[true, true, true, true, true, true, true, false, false, true, true, false, false, false, false] rfl rfl (take_ofW HT_.out HW_.out (by kernel_rfl)) (fun _ _ _ h => h) (Or.inl ⟨by rfl, ?_⟩) hHeld ?_ ?_
  rotate_left
  ·rintro w' ⟨s0, s1, s2, s3⟩
   go_simp
   with_reducible rfl
  rotate_left
  ·simp only [Act.put, List.setIfInBounds_toArray, List.set_cons_zero, List.set_cons_succ, i64_w, i32_w]
   rfl
  refine one_ (i := 7) (N := some 27) #[true, true, true, true, true, true, true, true, false, true, true, false, false, false, false] rfl rfl (one_of HT_.out (by kernel_rfl)) (by decide) (fun K hK => ?_)
  refine goes_ Try.func9 (by kernel_rfl) rfl #[.int .i64 (wrap64 (Int.tdiv a1 16)), .int .i64 (wrap64 ((wrap64 (2 + t140)) - 1))] (by rfl) rfl rfl (by (try simp only [List.map_toArray, List.map_cons, List.map_nil]); first | done | rfl | (simp only [List.length_drop, List.length_take]; rfl)) ?_
  with_reducible refine (racewaylaw15_pick.calls (wrap64 (Int.tdiv a1 16)) (wrap64 ((wrap64 (2 + t140)) - 1)) t143 _ A6.out).mono ?_
  rintro e w' ⟨rfl, ⟨nd, rfl⟩⟩
  refine ⟨_, rfl, ?_⟩
  refine hK.out _ _ ⟨(blk_cell BK141.out 0).trans rfl, (blk_cell BK141.out 1).trans rfl, (blk_cell BK141.out 2).trans rfl, (blk_cell BK141.out 3).trans rfl⟩ (fun hHeld => ?_)
  clear hK K
  refine norm_ (a' := ?_) ?_ ?_
  rotate_left
  ·show Act.put _ (some 27) _ = _
   simp only [Act.put, List.setIfInBounds_toArray, List.set_cons_zero, List.set_cons_succ, i64_w, i32_w]
   rfl
  refine pure_ (i := 8) (N := some 28) (v := ?_) (a' := ?_) #[true, true, true, true, true, true, true, true, true, true, true, false, false, false, false] rfl rfl (any_of HT_.out (by kernel_rfl)) (fun _ _ _ h => h) (Or.inl ⟨by rfl, ?_⟩) ?_ ?_
  rotate_left
  ·intro w'
   go_simp
   with_reducible rfl
  rotate_left
  ·simp only [Act.put, List.setIfInBounds_toArray, List.set_cons_zero, List.set_cons_succ, i64_w, i32_w]
   rfl
  refine pure_ (i := 11) (N := some 31) (v := ?_) (a' := ?_) #[true, true, true, true, true, true, true, true, true, true, true, true, false, false, false] rfl rfl (any_of HT_.out (by kernel_rfl)) (fun _ _ _ h => h) (Or.inl ⟨by rfl, ?_⟩) ?_ ?_
  rotate_left
  ·intro w'
   go_simp
   with_reducible rfl
  rotate_left
  ·simp only [Act.put, List.setIfInBounds_toArray, List.set_cons_zero, List.set_cons_succ, i64_w, i32_w]
   rfl
  refine pure_ (i := 12) (N := some 32) (v := ?_) (a' := ?_) #[true, true, true, true, true, true, true, true, true, true, true, true, true, false, false] rfl rfl (any_of HT_.out (by kernel_rfl)) (fun _ _ _ h => h) (Or.inl ⟨by rfl, ?_⟩) ?_ ?_
  rotate_left
  ·intro w'
   go_simp
   with_reducible rfl
  rotate_left
  ·simp only [Act.put, List.setIfInBounds_toArray, List.set_cons_zero, List.set_cons_succ, i64_w, i32_w]
   rfl
  refine pure_ (i := 13) (N := some 33) (v := ?_) (a' := ?_) #[true, true, true, true, true, true, true, true, true, true, true, true, true, true, false] rfl rfl (any_of HT_.out (by kernel_rfl)) (fun _ _ _ h => h) (Or.inl ⟨by rfl, ?_⟩) ?_ ?_
  rotate_left
  ·intro w'
   go_simp
   with_reducible rfl
  rotate_left
  ·simp only [Act.put, List.setIfInBounds_toArray, List.set_cons_zero, List.set_cons_succ, i64_w, i32_w]
   rfl
  refine last_ (i := 14) (N := none) #[true, true, true, true, true, true, true, true, true, true, true, true, true, true, true] rfl rfl (one_of HT_.out (by kernel_rfl)) (by decide) (fun K hK => ?_)
  have hs14 : w13.cell? ⟨gb141, 2, none⟩ = some (.int .i64 0) := (blk_cell BK141.out 2).trans rfl
  have hfs14 := blk_frozen BK141.out 2
  have hns14_0 := NB139_141.out
  have hms14_0 := NB141_139.out
  refine skip_ (w1 := ?_) (by rfl) rfl ?_ ?_
  rotate_left
  ·go_simp
   rfl
  refine hK.out _ _ ?_
  clear hK K
  refine done_ (done_of HT_.out (by kernel_rfl)) ?_
  try go_wp2
  go_loopg [8] k (fun kq v8 w' => ∃ (x8_1 : Int) (x142003_1 : List (S30)) (u142003 : Value), v8 = .int .i64 x8_1 ∧ Aside0 (racewaylaw15_made.l0 kq l2 x8_1 (wrap64 (2 + t140)) (wrap64 (1 + t142)) (wrap64 (1 + (Int.tmod (wrap64 ((wrap64 (1 + t142)) + t143)) (wrap64 (2 + t140))))) x142003_1 = some (r1, r2, r3, r4)) ∧ Aside0 (kq ≤ k) ∧ Aside0 (Kd.R k30 30 w' w.heap.size (fun _ => True) u142003 x142003_1) ∧ Aside0 (w'.heap[gb139]? = some (.cells #[.int .i64 0, .int .i64 0, .int .i64 0, (.slice none 0 0)] 26 (0, 0))) ∧ Aside0 (w'.heap[gb141]? = some (.cells #[.int .i64 (wrap64 (2 + t140)), .int .i64 (wrap64 (1 + t142)), .int .i64 (wrap64 (1 + (Int.tmod (wrap64 ((wrap64 (1 + t142)) + t143)) (wrap64 (2 + t140))))), u142003] 26 (0, 0))) ∧ Aside0 (Below w.heap.size w w'))
  case atStart => exact ⟨(0), (([] : List (S30))), (.slice none 0 0), (by first | rfl | (simp; done) | (simp [*]; done)), H', ⟨Nat.le_refl _⟩, ⟨by first | exact Kd.R_nil _ _ _ _ _ | exact Kd.N_nil _ _ _ _ _ | exact Kd.V_nil _ _ _ _ _ | exact Kd.Q_nil _ _ _ _ _ | exact Kd.S_nil _ _ _ _ _⟩, ⟨by (with_reducible repeat first | refine blk_drewN ?_ _ | refine blk_drew ?_ | refine blk_alloc ?_ _); refine blk_far ?_ NB139_141.out _; (with_reducible repeat first | refine blk_drewN ?_ _ | refine blk_drew ?_ | refine blk_alloc ?_ _); exact BK139.out⟩, ⟨by (with_reducible repeat first | refine blk_drewN ?_ _ | refine blk_drew ?_ | refine blk_alloc ?_ _); refine blk_put (cs := #[.int .i64 (wrap64 (2 + t140)), .int .i64 (wrap64 (1 + t142)), .int .i64 0, .slice none 0 0]) ?_ 2 _ rfl; (with_reducible repeat first | refine blk_drewN ?_ _ | refine blk_drew ?_ | refine blk_alloc ?_ _); exact BK141.out⟩, ⟨by repeat (first | (with_reducible first | exact HB.out | apply below_alloc | apply pw_below_drewN | apply below_drew1 | refine below_set ?_ GE139.out | refine below_set ?_ GE141.out) | exact HB.out)⟩⟩
  case round =>
   clear H'
   try clear c1
   try clear c2
   try clear p2
   try clear p6
   try clear c7
   try clear c7b0
   try clear c7b1
   try clear c9
   try clear c10
   try clear c11
   try clear hcz11_0
   try clear hcz11_1
   try clear hcz11_2
   try clear hcz11_3
   try clear hfz11_0
   try clear hfz11_1
   try clear hfz11_2
   try clear hfz11_3
   obtain ⟨x8_1, x142003_1, u142003, rfl, HA, HK1, HO_142003, BK139, BK141, HB⟩ := hrel
   cases gk with
   | zero => exact absurd HA.out (by simp [racewaylaw15_made.l0])
   | succ k1 =>
    (have H := HA.out);(clear HA);(simp only [racewaylaw15_made.l0] at H);(have HC15 := Aside0.mk H);(clear H)
    go_upto_region 5 with (fail)
    go_cut [41] (fun v41 wc => ∃ (kq : Nat) (x41_14 : Bool), v41 = .bool x41_14 ∧ Aside0 (racewaylaw15_made.j1 kq l2 x8_1 x41_14 (wrap64 (2 + t140)) (wrap64 (1 + t142)) (wrap64 (1 + (Int.tmod (wrap64 ((wrap64 (1 + t142)) + t143)) (wrap64 (2 + t140))))) x142003_1 = some (r1, r2, r3, r4)) ∧ Aside0 (kq ≤ k1) ∧ Aside0 (Kd.R k30 30 wc w.heap.size (fun _ => True) u142003 x142003_1) ∧ Aside0 (wc.heap[gb139]? = some (.cells #[.int .i64 0, .int .i64 0, .int .i64 0, (.slice none 0 0)] 26 (0, 0))) ∧ Aside0 (wc.heap[gb141]? = some (.cells #[.int .i64 (wrap64 (2 + t140)), .int .i64 (wrap64 (1 + t142)), .int .i64 (wrap64 (1 + (Int.tmod (wrap64 ((wrap64 (1 + t142)) + t143)) (wrap64 (2 + t140))))), u142003] 26 (0, 0))) ∧ Aside0 (Below w.heap.size w wc))
    case first =>
     (have H := HC15.out);(clear HC15)
     by_cases c16 : x8_1 < (l2.length : Int)
     ·(rw [if_pos c16] at H);(have c16b0 : decide (x8_1 < (l2.length : Int)) = true := decide_eq_true c16);(clear c16);((first | rw [c16b0] | (simp only [i64_w, i32_w]; rw [c16b0]) | skip))
      as_aux_lemma =>
       (have H' := Aside0.mk H);(clear H)
       go_wp2
       go_meet
       case rel => exact ⟨_, (decide (x8_1 < 24)), (by first | rfl | (simp; done) | (simp [*]; done)), H', ⟨by have := HK1.out; first | omega | exact Nat.le_refl _⟩, ⟨by (with_reducible repeat first | apply Kd.R_alloc | apply Kd.R_drewN | apply Kd.R_drew); exact HO_142003.out⟩, ⟨by (with_reducible repeat first | refine blk_drewN ?_ _ | refine blk_drew ?_ | refine blk_alloc ?_ _); exact BK139.out⟩, ⟨by (with_reducible repeat first | refine blk_drewN ?_ _ | refine blk_drew ?_ | refine blk_alloc ?_ _); exact BK141.out⟩, ⟨by repeat (first | (with_reducible first | exact HB.out | apply below_alloc | apply pw_below_drewN | apply below_drew1 | refine below_set ?_ GE139.out | refine below_set ?_ GE141.out) | exact HB.out)⟩⟩
     ·(rw [if_neg c16] at H);(have c16b0 : decide (x8_1 < (l2.length : Int)) = false := decide_eq_false c16);(clear c16);((first | rw [c16b0] | (simp only [i64_w, i32_w]; rw [c16b0]) | skip))
      as_aux_lemma =>
       (have H' := Aside0.mk H);(clear H)
       go_wp2
       go_meet
       case rel => exact ⟨_, (false), (by first | rfl | (simp; done) | (simp [*]; done)), H', ⟨by have := HK1.out; first | omega | exact Nat.le_refl _⟩, ⟨by (with_reducible repeat first | apply Kd.R_alloc | apply Kd.R_drewN | apply Kd.R_drew); exact HO_142003.out⟩, ⟨by (with_reducible repeat first | refine blk_drewN ?_ _ | refine blk_drew ?_ | refine blk_alloc ?_ _); exact BK139.out⟩, ⟨by (with_reducible repeat first | refine blk_drewN ?_ _ | refine blk_drew ?_ | refine blk_alloc ?_ _); exact BK141.out⟩, ⟨by repeat (first | (with_reducible first | exact HB.out | apply below_alloc | apply pw_below_drewN | apply below_drew1 | refine below_set ?_ GE139.out | refine below_set ?_ GE141.out) | exact HB.out)⟩⟩
    case rest =>
     clear HC15
     try clear c1
     try clear c2
     try clear p2
     try clear p6
     try clear c7
     try clear c7b0
     try clear c7b1
     try clear c9
     try clear c10
     try clear c11
     try clear c16
     try clear c16b0
     try clear hcz11_0
     try clear hcz11_1
     try clear hcz11_2
     try clear hcz11_3
     try clear hfz11_0
     try clear hfz11_1
     try clear hfz11_2
     try clear hfz11_3
     try clear p2
     try clear p6
     obtain ⟨kq, x41_14, rfl, HA, HJ14, HO_142003, BK139, BK141, HB⟩ := hcut
     cases kq with
     | zero => exact absurd HA.out (by simp [racewaylaw15_made.j1])
     | succ kj14 =>
      (have H := HA.out);(clear HA);(simp only [racewaylaw15_made.j1] at H)
      by_cases c17 : x41_14 = true
      ·(subst c17);(have H1 : (if 0 ≤ x8_1 then (if x8_1 < (l2.length : Int) then ((racewaylaw15_pick.f ((rd_T61 l2 x8_1).f2) 21).bind fun t145 => ((racewaylaw15_pick.f (wrap64 (Int.tdiv ((rd_T61 l2 x8_1).f2) 21)) 9).bind fun t147 => (if t147 = 0 then ((racewaylaw15_pick.f ((rd_T61 l2 x8_1).f2) 1000000).bind fun t149 => ((racewaylaw15_pick.f ((rd_T61 l2 x8_1).f0) (wrap64 (2 + t140))).bind fun t151 => ((racewaylaw15_pick.f ((rd_T61 l2 x8_1).f1) (wrap64 (2 + t140))).bind fun t153 => (if x142003_1.length < 5864062014805 then (racewaylaw15_made.l0 kj14 l2 (wrap64 (x8_1 + 1)) (wrap64 (2 + t140)) (wrap64 (1 + t142)) (wrap64 (1 + (Int.tmod (wrap64 ((wrap64 (1 + t142)) + t143)) (wrap64 (2 + t140))))) (x142003_1 ++ [(⟨wrap64 (1 + t151), wrap64 (1 + t153), t149⟩ : S30)])) else (none))))) else ((racewaylaw15_pick.f ((rd_T61 l2 x8_1).f0) (wrap64 (2 + t140))).bind fun t158 => ((racewaylaw15_pick.f ((rd_T61 l2 x8_1).f1) (wrap64 (2 + t140))).bind fun t160 => (if x142003_1.length < 5864062014805 then (racewaylaw15_made.l0 kj14 l2 (wrap64 (x8_1 + 1)) (wrap64 (2 + t140)) (wrap64 (1 + t142)) (wrap64 (1 + (Int.tmod (wrap64 ((wrap64 (1 + t142)) + t143)) (wrap64 (2 + t140))))) (x142003_1 ++ [(⟨wrap64 (1 + t158), wrap64 (1 + t160), t145⟩ : S30)])) else (none))))))) else (none)) else (none)) = some (r1, r2, r3, r4) := by rw [if_pos rfl] at H; exact H);(clear H);(have H := H1);(clear H1)
       by_cases c18 : 0 ≤ x8_1
       ·(rw [if_pos c18] at H);(have c18b0 : decide (0 ≤ x8_1) = true := decide_eq_true c18);(clear c18)
        by_cases c19 : x8_1 < (l2.length : Int)
        ·(rw [if_pos c19] at H);(have c19b0 : decide (x8_1 < (l2.length : Int)) = true := decide_eq_true c19);(clear c19);(replace H := Option.bind_eq_some_iff.mp H);(obtain ⟨t145, A200, H⟩ := H);(replace H : ((racewaylaw15_pick.f (wrap64 (Int.tdiv ((rd_T61 l2 x8_1).f2) 21)) 9).bind fun t147 => (if t147 = 0 then ((racewaylaw15_pick.f ((rd_T61 l2 x8_1).f2) 1000000).bind fun t149 => ((racewaylaw15_pick.f ((rd_T61 l2 x8_1).f0) (wrap64 (2 + t140))).bind fun t151 => ((racewaylaw15_pick.f ((rd_T61 l2 x8_1).f1) (wrap64 (2 + t140))).bind fun t153 => (if x142003_1.length < 5864062014805 then (racewaylaw15_made.l0 kj14 l2 (wrap64 (x8_1 + 1)) (wrap64 (2 + t140)) (wrap64 (1 + t142)) (wrap64 (1 + (Int.tmod (wrap64 ((wrap64 (1 + t142)) + t143)) (wrap64 (2 + t140))))) (x142003_1 ++ [(⟨wrap64 (1 + t151), wrap64 (1 + t153), t149⟩ : S30)])) else (none))))) else ((racewaylaw15_pick.f ((rd_T61 l2 x8_1).f0) (wrap64 (2 + t140))).bind fun t158 => ((racewaylaw15_pick.f ((rd_T61 l2 x8_1).f1) (wrap64 (2 + t140))).bind fun t160 => (if x142003_1.length < 5864062014805 then (racewaylaw15_made.l0 kj14 l2 (wrap64 (x8_1 + 1)) (wrap64 (2 + t140)) (wrap64 (1 + t142)) (wrap64 (1 + (Int.tmod (wrap64 ((wrap64 (1 + t142)) + t143)) (wrap64 (2 + t140))))) (x142003_1 ++ [(⟨wrap64 (1 + t158), wrap64 (1 + t160), t145⟩ : S30)])) else (none)))))) = some (r1, r2, r3, r4) := H);(have A20 := Aside0.mk A200);(clear A200);(replace H := Option.bind_eq_some_iff.mp H);(obtain ⟨t147, A210, H⟩ := H);(replace H : (if t147 = 0 then ((racewaylaw15_pick.f ((rd_T61 l2 x8_1).f2) 1000000).bind fun t149 => ((racewaylaw15_pick.f ((rd_T61 l2 x8_1).f0) (wrap64 (2 + t140))).bind fun t151 => ((racewaylaw15_pick.f ((rd_T61 l2 x8_1).f1) (wrap64 (2 + t140))).bind fun t153 => (if x142003_1.length < 5864062014805 then (racewaylaw15_made.l0 kj14 l2 (wrap64 (x8_1 + 1)) (wrap64 (2 + t140)) (wrap64 (1 + t142)) (wrap64 (1 + (Int.tmod (wrap64 ((wrap64 (1 + t142)) + t143)) (wrap64 (2 + t140))))) (x142003_1 ++ [(⟨wrap64 (1 + t151), wrap64 (1 + t153), t149⟩ : S30)])) else (none))))) else ((racewaylaw15_pick.f ((rd_T61 l2 x8_1).f0) (wrap64 (2 + t140))).bind fun t158 => ((racewaylaw15_pick.f ((rd_T61 l2 x8_1).f1) (wrap64 (2 + t140))).bind fun t160 => (if x142003_1.length < 5864062014805 then (racewaylaw15_made.l0 kj14 l2 (wrap64 (x8_1 + 1)) (wrap64 (2 + t140)) (wrap64 (1 + t142)) (wrap64 (1 + (Int.tmod (wrap64 ((wrap64 (1 + t142)) + t143)) (wrap64 (2 + t140))))) (x142003_1 ++ [(⟨wrap64 (1 + t158), wrap64 (1 + t160), t145⟩ : S30)])) else (none))))) = some (r1, r2, r3, r4) := H);(have A21 := Aside0.mk A210);(clear A210)
         by_cases c22 : t147 = 0
         ·(rw [if_pos c22] at H);(have c22b0 : (t147 == 0) = true := beq_iff_eq.mpr c22);(have c22b1 : (t147 != 0) = false := bne_eq_false_iff_eq.mpr c22);(clear c22);(replace H := Option.bind_eq_some_iff.mp H);(obtain ⟨t149, A230, H⟩ := H);(replace H : ((racewaylaw15_pick.f ((rd_T61 l2 x8_1).f0) (wrap64 (2 + t140))).bind fun t151 => ((racewaylaw15_pick.f ((rd_T61 l2 x8_1).f1) (wrap64 (2 + t140))).bind fun t153 => (if x142003_1.length < 5864062014805 then (racewaylaw15_made.l0 kj14 l2 (wrap64 (x8_1 + 1)) (wrap64 (2 + t140)) (wrap64 (1 + t142)) (wrap64 (1 + (Int.tmod (wrap64 ((wrap64 (1 + t142)) + t143)) (wrap64 (2 + t140))))) (x142003_1 ++ [(⟨wrap64 (1 + t151), wrap64 (1 + t153), t149⟩ : S30)])) else (none)))) = some (r1, r2, r3, r4) := H);(have A23 := Aside0.mk A230);(clear A230);(replace H := Option.bind_eq_some_iff.mp H);(obtain ⟨t151, A240, H⟩ := H);(replace H : ((racewaylaw15_pick.f ((rd_T61 l2 x8_1).f1) (wrap64 (2 + t140))).bind fun t153 => (if x142003_1.length < 5864062014805 then (racewaylaw15_made.l0 kj14 l2 (wrap64 (x8_1 + 1)) (wrap64 (2 + t140)) (wrap64 (1 + t142)) (wrap64 (1 + (Int.tmod (wrap64 ((wrap64 (1 + t142)) + t143)) (wrap64 (2 + t140))))) (x142003_1 ++ [(⟨wrap64 (1 + t151), wrap64 (1 + t153), t149⟩ : S30)])) else (none))) = some (r1, r2, r3, r4) := H);(have A24 := Aside0.mk A240);(clear A240);(replace H := Option.bind_eq_some_iff.mp H);(obtain ⟨t153, A250, H⟩ := H);(replace H : (if x142003_1.length < 5864062014805 then (racewaylaw15_made.l0 kj14 l2 (wrap64 (x8_1 + 1)) (wrap64 (2 + t140)) (wrap64 (1 + t142)) (wrap64 (1 + (Int.tmod (wrap64 ((wrap64 (1 + t142)) + t143)) (wrap64 (2 + t140))))) (x142003_1 ++ [(⟨wrap64 (1 + t151), wrap64 (1 + t153), t149⟩ : S30)])) else (none)) = some (r1, r2, r3, r4) := H);(have A25 := Aside0.mk A250);(clear A250)
          by_cases c26 : x142003_1.length < 5864062014805
          ·(rw [if_pos c26] at H);(have LMc26 := Aside0.mk c26);(clear c26);(obtain ⟨y154, hy154⟩ : ∃ y_ : List (S30), y_ = (x142003_1 ++ [(⟨wrap64 (1 + t151), wrap64 (1 + t153), t149⟩ : S30)]) := ⟨_, rfl⟩);(replace H : (racewaylaw15_made.l0 kj14 l2 (wrap64 (x8_1 + 1)) (wrap64 (2 + t140)) (wrap64 (1 + t142)) (wrap64 (1 + (Int.tmod (wrap64 ((wrap64 (1 + t142)) + t143)) (wrap64 (2 + t140))))) y154) = some (r1, r2, r3, r4) := by first | (rw [hy154]; with_reducible exact H) | (have H2_ := (Option.bind_some _ _).symm.trans H; rw [hy154]; with_reducible exact H2_) | (have H2_ := (Option.bind_some _ _).symm.trans H; with_reducible exact H2_) | with_reducible exact H | (rw [hy154]; exact H) | exact H);(have Ny154 := Aside0.mk hy154);(clear hy154)
           as_aux_lemma =>
            (have H' := Aside0.mk H);(clear H);(have p144 : 0 ≤ (x8_1 : Int) := of_decide_eq_true (by first | (with_reducible assumption) | assumption));(have q144 : x8_1 < (l2.length : Int) := of_decide_eq_true (by first | (with_reducible assumption) | assumption));(obtain ⟨ad144, e144, hx144_0, hx144_1, hx144_2⟩ := at_T61 HR2.out x8_1 p144 q144);(cases e144);(replace hx144_0 := (HB.out.cell (World.block_lt_of_cell? w _ hx144_0)).trans hx144_0);(replace hx144_1 := (HB.out.cell (World.block_lt_of_cell? w _ hx144_1)).trans hx144_1);(replace hx144_2 := (HB.out.cell (World.block_lt_of_cell? w _ hx144_2)).trans hx144_2);(replace p144 := eq_true p144);(replace q144 := eq_true q144)
            try go_wp2_with (first | ((with_reducible refine gate_callee (f := 9) rfl ?_); refine goesL_ (some 49) rfl rfl Try.func9 (by kernel_rfl) rfl #[.int .i64 ((rd_T61 l2 x8_1).f2), .int .i64 21] rfl (by (try simp only [List.map_toArray, List.map_cons, List.map_nil]); first | done | rfl | (simp only [List.length_drop, List.length_take]; rfl)) ?_; (with_reducible refine (racewaylaw15_pick.calls ((rd_T61 l2 x8_1).f2) 21 t145 _ A20.out).mono ?_); rintro e w' ⟨rfl, ⟨nd, rfl⟩⟩; refine ⟨_, rfl, ?_⟩; (try (rw [drewN_self wc]; generalize hq_ : World.drewN wc _ = wc; have n0_ : Aside0 (Kd.R k30 30 wc w.heap.size (fun _ => True) u142003 x142003_1) := ⟨by rw [← hq_]; exact (by (with_reducible repeat first | apply Kd.R_alloc | apply Kd.R_drewN | apply Kd.R_drew); exact HO_142003.out)⟩; have n1_ : Aside0 (wc.heap[gb139]? = some (.cells #[.int .i64 0, .int .i64 0, .int .i64 0, .slice none 0 0] 26 (0, 0))) := ⟨by rw [← hq_]; exact (by (with_reducible repeat first | refine blk_drewN ?_ _ | refine blk_drew ?_ | refine blk_alloc ?_ _); exact BK139.out)⟩; have n2_ : Aside0 (wc.heap[gb141]? = some (.cells #[.int .i64 (wrap64 (2 + t140)), .int .i64 (wrap64 (1 + t142)), .int .i64 (wrap64 (1 + (Int.tmod (wrap64 ((wrap64 (1 + t142)) + t143)) (wrap64 (2 + t140))))), u142003] 26 (0, 0))) := ⟨by rw [← hq_]; exact (by (with_reducible repeat first | refine blk_drewN ?_ _ | refine blk_drew ?_ | refine blk_alloc ?_ _); exact BK141.out)⟩; have n3_ : Aside0 (Below w.heap.size w wc) := ⟨by rw [← hq_]; exact (by repeat (first | (with_reducible first | exact HB.out | apply below_alloc | apply pw_below_drewN | apply below_drew1 | refine below_set ?_ GE139.out | refine below_set ?_ GE141.out) | exact HB.out))⟩; clear HO_142003 BK139 BK141 HB hq_; have HO_142003 := n0_; have BK139 := n1_; have BK141 := n2_; have HB := n3_; clear n0_ n1_ n2_ n3_; have hcqBK139_0 : wc.cell? ⟨gb139, 0, none⟩ = some (.int .i64 0) := (blk_cell BK139.out 0).trans rfl; have hfqBK139_0 := blk_frozen BK139.out 0; have hcqBK139_1 : wc.cell? ⟨gb139, 1, none⟩ = some (.int .i64 0) := (blk_cell BK139.out 1).trans rfl; have hfqBK139_1 := blk_frozen BK139.out 1; have hcqBK139_2 : wc.cell? ⟨gb139, 2, none⟩ = some (.int .i64 0) := (blk_cell BK139.out 2).trans rfl; have hfqBK139_2 := blk_frozen BK139.out 2; have hcqBK139_3 : wc.cell? ⟨gb139, 3, none⟩ = some (.slice none 0 0) := (blk_cell BK139.out 3).trans rfl; have hfqBK139_3 := blk_frozen BK139.out 3; have hcqBK141_0 : wc.cell? ⟨gb141, 0, none⟩ = some (.int .i64 (wrap64 (2 + t140))) := (blk_cell BK141.out 0).trans rfl; have hfqBK141_0 := blk_frozen BK141.out 0; have hcqBK141_1 : wc.cell? ⟨gb141, 1, none⟩ = some (.int .i64 (wrap64 (1 + t142))) := (blk_cell BK141.out 1).trans rfl; have hfqBK141_1 := blk_frozen BK141.out 1; have hcqBK141_2 : wc.cell? ⟨gb141, 2, none⟩ = some (.int .i64 (wrap64 (1 + (Int.tmod (wrap64 ((wrap64 (1 + t142)) + t143)) (wrap64 (2 + t140)))))) := (blk_cell BK141.out 2).trans rfl; have hfqBK141_2 := blk_frozen BK141.out 2; have hcqBK141_3 : wc.cell? ⟨gb141, 3, none⟩ = some (u142003) := (blk_cell BK141.out 3).trans rfl; have hfqBK141_3 := blk_frozen BK141.out 3)); have p146 : 0 ≤ (x8_1 : Int) := of_decide_eq_true (by first | (with_reducible assumption) | assumption); have q146 : x8_1 < (l2.length : Int) := of_decide_eq_true (by first | (with_reducible assumption) | assumption); obtain ⟨ad146, e146, hx146_0, hx146_1, hx146_2⟩ := at_T61 HR2.out x8_1 p146 q146; obtain rfl : ad144 = ad146 := (by injection e146); replace hx146_0 := (HB.out.cell (World.block_lt_of_cell? w _ hx146_0)).trans hx146_0; replace hx146_1 := (HB.out.cell (World.block_lt_of_cell? w _ hx146_1)).trans hx146_1; replace hx146_2 := (HB.out.cell (World.block_lt_of_cell? w _ hx146_2)).trans hx146_2; replace p146 := eq_true p146; replace q146 := eq_true q146) | ((with_reducible refine gate_callee (f := 9) rfl ?_); refine goesL_ (some 56) rfl rfl Try.func9 (by kernel_rfl) rfl #[.int .i64 (wrap64 (Int.tdiv ((rd_T61 l2 x8_1).f2) 21)), .int .i64 9] rfl (by (try simp only [List.map_toArray, List.map_cons, List.map_nil]); first | done | rfl | (simp only [List.length_drop, List.length_take]; rfl)) ?_; (with_reducible refine (racewaylaw15_pick.calls (wrap64 (Int.tdiv ((rd_T61 l2 x8_1).f2) 21)) 9 t147 _ A21.out).mono ?_); rintro e w' ⟨rfl, ⟨nd, rfl⟩⟩; refine ⟨_, rfl, ?_⟩; (try (rw [drewN_self wc]; generalize hq_ : World.drewN wc _ = wc; have n0_ : Aside0 (Kd.R k30 30 wc w.heap.size (fun _ => True) u142003 x142003_1) := ⟨by rw [← hq_]; exact (by (with_reducible repeat first | apply Kd.R_alloc | apply Kd.R_drewN | apply Kd.R_drew); exact HO_142003.out)⟩; have n1_ : Aside0 (wc.heap[gb139]? = some (.cells #[.int .i64 0, .int .i64 0, .int .i64 0, .slice none 0 0] 26 (0, 0))) := ⟨by rw [← hq_]; exact (by (with_reducible repeat first | refine blk_drewN ?_ _ | refine blk_drew ?_ | refine blk_alloc ?_ _); exact BK139.out)⟩; have n2_ : Aside0 (wc.heap[gb141]? = some (.cells #[.int .i64 (wrap64 (2 + t140)), .int .i64 (wrap64 (1 + t142)), .int .i64 (wrap64 (1 + (Int.tmod (wrap64 ((wrap64 (1 + t142)) + t143)) (wrap64 (2 + t140))))), u142003] 26 (0, 0))) := ⟨by rw [← hq_]; exact (by (with_reducible repeat first | refine blk_drewN ?_ _ | refine blk_drew ?_ | refine blk_alloc ?_ _); exact BK141.out)⟩; have n3_ : Aside0 (Below w.heap.size w wc) := ⟨by rw [← hq_]; exact (by repeat (first | (with_reducible first | exact HB.out | apply below_alloc | apply pw_below_drewN | apply below_drew1 | refine below_set ?_ GE139.out | refine below_set ?_ GE141.out) | exact HB.out))⟩; clear HO_142003 BK139 BK141 HB hq_; have HO_142003 := n0_; have BK139 := n1_; have BK141 := n2_; have HB := n3_; clear n0_ n1_ n2_ n3_; have hcqBK139_0 : wc.cell? ⟨gb139, 0, none⟩ = some (.int .i64 0) := (blk_cell BK139.out 0).trans rfl; have hfqBK139_0 := blk_frozen BK139.out 0; have hcqBK139_1 : wc.cell? ⟨gb139, 1, none⟩ = some (.int .i64 0) := (blk_cell BK139.out 1).trans rfl; have hfqBK139_1 := blk_frozen BK139.out 1; have hcqBK139_2 : wc.cell? ⟨gb139, 2, none⟩ = some (.int .i64 0) := (blk_cell BK139.out 2).trans rfl; have hfqBK139_2 := blk_frozen BK139.out 2; have hcqBK139_3 : wc.cell? ⟨gb139, 3, none⟩ = some (.slice none 0 0) := (blk_cell BK139.out 3).trans rfl; have hfqBK139_3 := blk_frozen BK139.out 3; have hcqBK141_0 : wc.cell? ⟨gb141, 0, none⟩ = some (.int .i64 (wrap64 (2 + t140))) := (blk_cell BK141.out 0).trans rfl; have hfqBK141_0 := blk_frozen BK141.out 0; have hcqBK141_1 : wc.cell? ⟨gb141, 1, none⟩ = some (.int .i64 (wrap64 (1 + t142))) := (blk_cell BK141.out 1).trans rfl; have hfqBK141_1 := blk_frozen BK141.out 1; have hcqBK141_2 : wc.cell? ⟨gb141, 2, none⟩ = some (.int .i64 (wrap64 (1 + (Int.tmod (wrap64 ((wrap64 (1 + t142)) + t143)) (wrap64 (2 + t140)))))) := (blk_cell BK141.out 2).trans rfl; have hfqBK141_2 := blk_frozen BK141.out 2; have hcqBK141_3 : wc.cell? ⟨gb141, 3, none⟩ = some (u142003) := (blk_cell BK141.out 3).trans rfl; have hfqBK141_3 := blk_frozen BK141.out 3)); have p148 : 0 ≤ (x8_1 : Int) := of_decide_eq_true (by first | (with_reducible assumption) | assumption); have q148 : x8_1 < (l2.length : Int) := of_decide_eq_true (by first | (with_reducible assumption) | assumption); obtain ⟨ad148, e148, hx148_0, hx148_1, hx148_2⟩ := at_T61 HR2.out x8_1 p148 q148; obtain rfl : ad144 = ad148 := (by injection e148); replace hx148_0 := (HB.out.cell (World.block_lt_of_cell? w _ hx148_0)).trans hx148_0; replace hx148_1 := (HB.out.cell (World.block_lt_of_cell? w _ hx148_1)).trans hx148_1; replace hx148_2 := (HB.out.cell (World.block_lt_of_cell? w _ hx148_2)).trans hx148_2; replace p148 := eq_true p148; replace q148 := eq_true q148) | ((with_reducible refine gate_callee (f := 9) rfl ?_); refine goesL_ (some 63) rfl rfl Try.func9 (by kernel_rfl) rfl #[.int .i64 ((rd_T61 l2 x8_1).f2), .int .i64 1000000] rfl (by (try simp only [List.map_toArray, List.map_cons, List.map_nil]); first | done | rfl | (simp only [List.length_drop, List.length_take]; rfl)) ?_; (with_reducible refine (racewaylaw15_pick.calls ((rd_T61 l2 x8_1).f2) 1000000 t149 _ A23.out).mono ?_); rintro e w' ⟨rfl, ⟨nd, rfl⟩⟩; refine ⟨_, rfl, ?_⟩; (try (rw [drewN_self wc]; generalize hq_ : World.drewN wc _ = wc; have n0_ : Aside0 (Kd.R k30 30 wc w.heap.size (fun _ => True) u142003 x142003_1) := ⟨by rw [← hq_]; exact (by (with_reducible repeat first | apply Kd.R_alloc | apply Kd.R_drewN | apply Kd.R_drew); exact HO_142003.out)⟩; have n1_ : Aside0 (wc.heap[gb139]? = some (.cells #[.int .i64 0, .int .i64 0, .int .i64 0, .slice none 0 0] 26 (0, 0))) := ⟨by rw [← hq_]; exact (by (with_reducible repeat first | refine blk_drewN ?_ _ | refine blk_drew ?_ | refine blk_alloc ?_ _); exact BK139.out)⟩; have n2_ : Aside0 (wc.heap[gb141]? = some (.cells #[.int .i64 (wrap64 (2 + t140)), .int .i64 (wrap64 (1 + t142)), .int .i64 (wrap64 (1 + (Int.tmod (wrap64 ((wrap64 (1 + t142)) + t143)) (wrap64 (2 + t140))))), u142003] 26 (0, 0))) := ⟨by rw [← hq_]; exact (by (with_reducible repeat first | refine blk_drewN ?_ _ | refine blk_drew ?_ | refine blk_alloc ?_ _); exact BK141.out)⟩; have n3_ : Aside0 (Below w.heap.size w wc) := ⟨by rw [← hq_]; exact (by repeat (first | (with_reducible first | exact HB.out | apply below_alloc | apply pw_below_drewN | apply below_drew1 | refine below_set ?_ GE139.out | refine below_set ?_ GE141.out) | exact HB.out))⟩; clear HO_142003 BK139 BK141 HB hq_; have HO_142003 := n0_; have BK139 := n1_; have BK141 := n2_; have HB := n3_; clear n0_ n1_ n2_ n3_; have hcqBK139_0 : wc.cell? ⟨gb139, 0, none⟩ = some (.int .i64 0) := (blk_cell BK139.out 0).trans rfl; have hfqBK139_0 := blk_frozen BK139.out 0; have hcqBK139_1 : wc.cell? ⟨gb139, 1, none⟩ = some (.int .i64 0) := (blk_cell BK139.out 1).trans rfl; have hfqBK139_1 := blk_frozen BK139.out 1; have hcqBK139_2 : wc.cell? ⟨gb139, 2, none⟩ = some (.int .i64 0) := (blk_cell BK139.out 2).trans rfl; have hfqBK139_2 := blk_frozen BK139.out 2; have hcqBK139_3 : wc.cell? ⟨gb139, 3, none⟩ = some (.slice none 0 0) := (blk_cell BK139.out 3).trans rfl; have hfqBK139_3 := blk_frozen BK139.out 3; have hcqBK141_0 : wc.cell? ⟨gb141, 0, none⟩ = some (.int .i64 (wrap64 (2 + t140))) := (blk_cell BK141.out 0).trans rfl; have hfqBK141_0 := blk_frozen BK141.out 0; have hcqBK141_1 : wc.cell? ⟨gb141, 1, none⟩ = some (.int .i64 (wrap64 (1 + t142))) := (blk_cell BK141.out 1).trans rfl; have hfqBK141_1 := blk_frozen BK141.out 1; have hcqBK141_2 : wc.cell? ⟨gb141, 2, none⟩ = some (.int .i64 (wrap64 (1 + (Int.tmod (wrap64 ((wrap64 (1 + t142)) + t143)) (wrap64 (2 + t140)))))) := (blk_cell BK141.out 2).trans rfl; have hfqBK141_2 := blk_frozen BK141.out 2; have hcqBK141_3 : wc.cell? ⟨gb141, 3, none⟩ = some (u142003) := (blk_cell BK141.out 3).trans rfl; have hfqBK141_3 := blk_frozen BK141.out 3))))
            (have n0_ := Aside0.mk (Kd.R_drew HO_142003.out));(have n1_ := Aside0.mk (blk_drew BK139.out));(have n2_ := Aside0.mk (blk_drew BK141.out));(have n3_ := Aside0.mk (below_drew1 HB.out));(clear HO_142003);(clear BK139);(clear BK141);(clear HB);(have HO_142003 := n0_);(have BK139 := n1_);(have BK141 := n2_);(have HB := n3_);(clear n0_ n1_ n2_ n3_);(have p150 : 0 ≤ (x8_1 : Int) := of_decide_eq_true (by first | (with_reducible assumption) | assumption));(have q150 : x8_1 < (l2.length : Int) := of_decide_eq_true (by first | (with_reducible assumption) | assumption));(obtain ⟨ad150, e150, hx150_0, hx150_1, hx150_2⟩ := at_T61 HR2.out x8_1 p150 q150);(have hw150_2 := hx150_2);(have hw150_1 := hx150_1);(have hw150_0 := hx150_0);(obtain rfl : ad144 = ad150 := (by injection e150));(replace hx150_0 := (HB.out.cell (World.block_lt_of_cell? w _ hx150_0)).trans hx150_0);(replace hx150_1 := (HB.out.cell (World.block_lt_of_cell? w _ hx150_1)).trans hx150_1);(replace hx150_2 := (HB.out.cell (World.block_lt_of_cell? w _ hx150_2)).trans hx150_2);(replace p150 := eq_true p150);(replace q150 := eq_true q150);(have p152 : 0 ≤ (x8_1 : Int) := of_decide_eq_true (by first | (with_reducible assumption) | assumption));(have q152 : x8_1 < (l2.length : Int) := of_decide_eq_true (by first | (with_reducible assumption) | assumption));(obtain ⟨ad152, e152, hx152_0, hx152_1, hx152_2⟩ := at_T61 HR2.out x8_1 p152 q152);(have hw152_2 := hx152_2);(have hw152_1 := hx152_1);(have hw152_0 := hx152_0);(obtain rfl : ad144 = ad152 := (by injection e152));(replace hx152_0 := (HB.out.cell (World.block_lt_of_cell? w _ hx152_0)).trans hx152_0);(replace hx152_1 := (HB.out.cell (World.block_lt_of_cell? w _ hx152_1)).trans hx152_1);(replace hx152_2 := (HB.out.cell (World.block_lt_of_cell? w _ hx152_2)).trans hx152_2);(replace p152 := eq_true p152);(replace q152 := eq_true q152);(refine start_ (n := 26) (S := fun w' => w'.cell? ⟨gb141, 0, none⟩ = some (.int .i64 (wrap64 (2 + t140))) ∧ w'.cell? ⟨gb141, 1, none⟩ = some (.int .i64 (wrap64 (1 + t142))) ∧ w'.cell? ⟨gb141, 2, none⟩ = some (.int .i64 (wrap64 (1 + (Int.tmod (wrap64 ((wrap64 (1 + t142)) + t143)) (wrap64 (2 + t140)))))) ∧ w'.cell? ⟨gb141, 3, none⟩ = some (u142003) ∧ w'.cell? (ad144.add ((x8_1).toNat * 3)) = some (.int .i64 ((rd_T61 l2 x8_1).f0)) ∧ w'.cell? ⟨(ad144.add ((x8_1).toNat * 3)).block, (ad144.add ((x8_1).toNat * 3)).off + 1, none⟩ = some (.int .i64 ((rd_T61 l2 x8_1).f1)) ∧ w'.cell? ⟨(ad144.add ((x8_1).toNat * 3)).block, (ad144.add ((x8_1).toNat * 3)).off + 2, none⟩ = some (.int .i64 ((rd_T61 l2 x8_1).f2)) ∧ w'.cell? (ad144.add ((x8_1).toNat * 3)) = some (.int .i64 ((rd_T61 l2 x8_1).f0)) ∧ w'.cell? ⟨(ad144.add ((x8_1).toNat * 3)).block, (ad144.add ((x8_1).toNat * 3)).off + 1, none⟩ = some (.int .i64 ((rd_T61 l2 x8_1).f1)) ∧ w'.cell? ⟨(ad144.add ((x8_1).toNat * 3)).block, (ad144.add ((x8_1).toNat * 3)).off + 2, none⟩ = some (.int .i64 ((rd_T61 l2 x8_1).f2))) (ds := [25]) #[false, false, false, false, false, false, false, false, false, false, false, false, false, false, false, false, false, false, false, false, false, false, false, false, false, false] (by kernel_rfl) rfl rfl ⟨(blk_cell BK141.out 0).trans rfl, (blk_cell BK141.out 1).trans rfl, (blk_cell BK141.out 2).trans rfl, (blk_cell BK141.out 3).trans rfl, ((HB.out.cell (World.block_lt_of_cell? w _ hw150_0)).trans hw150_0), ((HB.out.cell (World.block_lt_of_cell? w _ hw150_1)).trans hw150_1), ((HB.out.cell (World.block_lt_of_cell? w _ hw150_2)).trans hw150_2), ((HB.out.cell (World.block_lt_of_cell? w _ hw152_0)).trans hw152_0), ((HB.out.cell (World.block_lt_of_cell? w _ hw152_1)).trans hw152_1), ((HB.out.cell (World.block_lt_of_cell? w _ hw152_2)).trans hw152_2)⟩ (fun hHeld => ?_); refine with_tabW racewaylaw15_made.tab10 racewaylaw15_made.bits10 (fun HT_ HW_ => ?_));(generalize wc.drew = w27 at HO_142003 BK139 BK141 HB hx150_0 hx150_1 hx150_2 hx152_0 hx152_1 hx152_2 hHeld ⊢);(refine pure_ (i := 0) (N := some 64) (v := ?_) (a' := ?_) #[true, false, false, false, false, false, false, false, false, false, false, false, false, false, false, false, false, false, false, false, false, false, false, false, false, false] rfl rfl (any_of HT_.out (by kernel_rfl)) (fun _ _ _ h => h) (Or.inl ⟨by rfl, ?_⟩) ?_ ?_)
            rotate_left
            ·intro w'
             go_simp
             with_reducible rfl
            rotate_left
            ·simp only [Act.put, List.setIfInBounds_toArray, List.set_cons_zero, List.set_cons_succ, i64_w, i32_w]
             rfl
            refine pure_ (i := 2) (N := some 66) (v := ?_) (a' := ?_) #[true, false, true, false, false, false, false, false, false, false, false, false, false, false, false, false, false, false, false, false, false, false, false, false, false, false] rfl rfl (any_of HT_.out (by kernel_rfl)) (fun _ _ _ h => h) (Or.inl ⟨by rfl, ?_⟩) ?_ ?_
            rotate_left
            ·intro w'
             go_simp
             with_reducible rfl
            rotate_left
            ·simp only [Act.put, List.setIfInBounds_toArray, List.set_cons_zero, List.set_cons_succ, i64_w, i32_w]
             rfl
            refine pure_ (i := 3) (N := some 67) (v := ?_) (a' := ?_) #[true, false, true, true, false, false, false, false, false, false, false, false, false, false, false, false, false, false, false, false, false, false, false, false, false, false] rfl rfl (any_of HT_.out (by kernel_rfl)) (fun _ _ _ h => h) (Or.inl ⟨by rfl, ?_⟩) ?_ ?_
            rotate_left
            ·intro w'
             go_simp
             with_reducible rfl
            rotate_left
            ·simp only [Act.put, List.setIfInBounds_toArray, List.set_cons_zero, List.set_cons_succ, i64_w, i32_w]
             rfl
            refine pure_ (i := 4) (N := some 68) (v := ?_) (a' := ?_) #[true, false, true, true, true, false, false, false, false, false, false, false, false, false, false, false, false, false, false, false, false, false, false, false, false, false] rfl rfl (any_of HT_.out (by kernel_rfl)) (fun _ _ _ h => h) (Or.inl ⟨by rfl, ?_⟩) ?_ ?_
            rotate_left
            ·intro w'
             go_simp
             with_reducible rfl
            rotate_left
            ·simp only [Act.put, List.setIfInBounds_toArray, List.set_cons_zero, List.set_cons_succ, i64_w, i32_w]
             rfl
            refine pure_ (i := 5) (N := some 69) (v := ?_) (a' := ?_) #[true, false, true, true, true, true, false, false, false, false, false, false, false, false, false, false, false, false, false, false, false, false, false, false, false, false] rfl rfl (any_of HT_.out (by kernel_rfl)) (fun _ _ _ h => h) (Or.inl ⟨by rfl, ?_⟩) ?_ ?_
            rotate_left
            ·intro w'
             go_simp
             with_reducible rfl
            rotate_left
            ·simp only [Act.put, List.setIfInBounds_toArray, List.set_cons_zero, List.set_cons_succ, i64_w, i32_w]
             rfl
            refine pure_ (i := 7) (N := some 71) (v := ?_) (a' := ?_) #[true, false, true, true, true, true, false, true, false, false, false, false, false, false, false, false, false, false, false, false, false, false, false, false, false, false] rfl rfl (any_of HT_.out (by kernel_rfl)) (fun _ _ _ h => h) (Or.inl ⟨by rfl, ?_⟩) ?_ ?_
            rotate_left
            ·intro w'
             go_simp
             with_reducible rfl
            rotate_left
            ·simp only [Act.put, List.setIfInBounds_toArray, List.set_cons_zero, List.set_cons_succ, i64_w, i32_w]
             rfl
            refine pure_ (i := 11) (N := some 75) (v := ?_) (a' := ?_) #[true, false, true, true, true, true, false, true, false, false, false, true, false, false, false, false, false, false, false, false, false, false, false, false, false, false] rfl rfl (any_of HT_.out (by kernel_rfl)) (fun _ _ _ h => h) (Or.inl ⟨by rfl, ?_⟩) ?_ ?_
            rotate_left
            ·intro w'
             go_simp
             with_reducible rfl
            rotate_left
            ·simp only [Act.put, List.setIfInBounds_toArray, List.set_cons_zero, List.set_cons_succ, i64_w, i32_w]
             rfl
            refine pure_ (i := 12) (N := some 76) (v := ?_) (a' := ?_) #[true, false, true, true, true, true, false, true, false, false, false, true, true, false, false, false, false, false, false, false, false, false, false, false, false, false] rfl rfl (any_of HT_.out (by kernel_rfl)) (fun _ _ _ h => h) (Or.inl ⟨by rfl, ?_⟩) ?_ ?_
            rotate_left
            ·intro w'
             go_simp
             with_reducible rfl
            rotate_left
            ·simp only [Act.put, List.setIfInBounds_toArray, List.set_cons_zero, List.set_cons_succ, i64_w, i32_w]
             rfl
            refine pure_ (i := 13) (N := some 77) (v := ?_) (a' := ?_) #[true, false, true, true, true, true, false, true, false, false, false, true, true, true, false, false, false, false, false, false, false, false, false, false, false, false] rfl rfl (any_of HT_.out (by kernel_rfl)) (fun _ _ _ h => h) (Or.inl ⟨by rfl, ?_⟩) ?_ ?_
            rotate_left
            ·intro w'
             go_simp
             with_reducible rfl
            rotate_left
            ·simp only [Act.put, List.setIfInBounds_toArray, List.set_cons_zero, List.set_cons_succ, i64_w, i32_w]
             rfl
            refine pure_ (i := 14) (N := some 78) (v := ?_) (a' := ?_) #[true, false, true, true, true, true, false, true, false, false, false, true, true, true, true, false, false, false, false, false, false, false, false, false, false, false] rfl rfl (any_of HT_.out (by kernel_rfl)) (fun _ _ _ h => h) (Or.inl ⟨by rfl, ?_⟩) ?_ ?_
            rotate_left
            ·intro w'
             go_simp
             with_reducible rfl
            rotate_left
            ·simp only [Act.put, List.setIfInBounds_toArray, List.set_cons_zero, List.set_cons_succ, i64_w, i32_w]
             rfl
            refine pure_ (i := 16) (N := some 80) (v := ?_) (a' := ?_) #[true, false, true, true, true, true, false, true, false, false, false, true, true, true, true, false, true, false, false, false, false, false, false, false, false, false] rfl rfl (any_of HT_.out (by kernel_rfl)) (fun _ _ _ h => h) (Or.inl ⟨by rfl, ?_⟩) ?_ ?_
            rotate_left
            ·intro w'
             go_simp
             with_reducible rfl
            rotate_left
            ·simp only [Act.put, List.setIfInBounds_toArray, List.set_cons_zero, List.set_cons_succ, i64_w, i32_w]
             rfl
            refine pure_ (i := 20) (N := some 84) (v := ?_) (a' := ?_) #[true, false, true, true, true, true, false, true, false, false, false, true, true, true, true, false, true, false, false, false, true, false, false, false, false, false] rfl rfl (any_of HT_.out (by kernel_rfl)) (fun _ _ _ h => h) (Or.inl ⟨by rfl, ?_⟩) ?_ ?_
            rotate_left
            ·intro w'
             go_simp
             with_reducible rfl
            rotate_left
            ·simp only [Act.put, List.setIfInBounds_toArray, List.set_cons_zero, List.set_cons_succ, i64_w, i32_w]
             rfl
            refine take_ (i := 1) (N := some 65) (v := ?_) (a' := ?_) #[true, true, true, true, true, true, false, true, false, false, false, true, true, true, true, false, true, false, false, false, true, false, false, false, false, false] rfl rfl (take_ofW HT_.out HW_.out (by kernel_rfl)) (fun _ _ _ h => h) (Or.inl ⟨by rfl, ?_⟩) hHeld ?_ ?_
            rotate_left
            ·rintro w' ⟨s0, s1, s2, s3, s4, s5, s6, s7, s8, s9⟩
             go_simp
             with_reducible rfl
            rotate_left
            ·simp only [Act.put, List.setIfInBounds_toArray, List.set_cons_zero, List.set_cons_succ, i64_w, i32_w]
             rfl
            refine take_ (i := 6) (N := some 70) (v := ?_) (a' := ?_) #[true, true, true, true, true, true, true, true, false, false, false, true, true, true, true, false, true, false, false, false, true, false, false, false, false, false] rfl rfl (take_ofW HT_.out HW_.out (by kernel_rfl)) (fun _ _ _ h => h) (Or.inl ⟨by rfl, ?_⟩) hHeld ?_ ?_
            rotate_left
            ·rintro w' ⟨s0, s1, s2, s3, s4, s5, s6, s7, s8, s9⟩
             go_simp
             with_reducible rfl
            rotate_left
            ·simp only [Act.put, List.setIfInBounds_toArray, List.set_cons_zero, List.set_cons_succ, i64_w, i32_w]
             rfl
            refine take_ (i := 8) (N := some 72) (v := ?_) (a' := ?_) #[true, true, true, true, true, true, true, true, true, false, false, true, true, true, true, false, true, false, false, false, true, false, false, false, false, false] rfl rfl (take_ofW HT_.out HW_.out (by kernel_rfl)) (fun _ _ _ h => h) (Or.inl ⟨by rfl, ?_⟩) hHeld ?_ ?_
            rotate_left
            ·rintro w' ⟨s0, s1, s2, s3, s4, s5, s6, s7, s8, s9⟩
             go_simp
             with_reducible rfl
            rotate_left
            ·simp only [Act.put, List.setIfInBounds_toArray, List.set_cons_zero, List.set_cons_succ, i64_w, i32_w]
             rfl
            refine take_ (i := 15) (N := some 79) (v := ?_) (a' := ?_) #[true, true, true, true, true, true, true, true, true, false, false, true, true, true, true, true, true, false, false, false, true, false, false, false, false, false] rfl rfl (take_ofW HT_.out HW_.out (by kernel_rfl)) (fun _ _ _ h => h) (Or.inl ⟨by rfl, ?_⟩) hHeld ?_ ?_
            rotate_left
            ·rintro w' ⟨s0, s1, s2, s3, s4, s5, s6, s7, s8, s9⟩
             go_simp
             with_reducible rfl
            rotate_left
            ·simp only [Act.put, List.setIfInBounds_toArray, List.set_cons_zero, List.set_cons_succ, i64_w, i32_w]
             rfl
            refine take_ (i := 17) (N := some 81) (v := ?_) (a' := ?_) #[true, true, true, true, true, true, true, true, true, false, false, true, true, true, true, true, true, true, false, false, true, false, false, false, false, false] rfl rfl (take_ofW HT_.out HW_.out (by kernel_rfl)) (fun _ _ _ h => h) (Or.inl ⟨by rfl, ?_⟩) hHeld ?_ ?_
            rotate_left
            ·rintro w' ⟨s0, s1, s2, s3, s4, s5, s6, s7, s8, s9⟩
             go_simp
             with_reducible rfl
            rotate_left
            ·simp only [Act.put, List.setIfInBounds_toArray, List.set_cons_zero, List.set_cons_succ, i64_w, i32_w]
             rfl
            (refine one_ (i := 9) (N := some 73) #[true, true, true, true, true, true, true, true, true, true, false, true, true, true, true, true, true, true, false, false, true, false, false, false, false, false] rfl rfl (one_of HT_.out (by kernel_rfl)) (by decide) (fun K hK => ?_));(refine goes_ Try.func9 (by kernel_rfl) rfl #[.int .i64 ((rd_T61 l2 x8_1).f0), .int .i64 (wrap64 (2 + t140))] (by rfl) rfl rfl (by (try simp only [List.map_toArray, List.map_cons, List.map_nil]); first | done | rfl | (simp only [List.length_drop, List.length_take]; rfl)) ?_)
            with_reducible refine (racewaylaw15_pick.calls ((rd_T61 l2 x8_1).f0) (wrap64 (2 + t140)) t151 _ A24.out).mono ?_
            (rintro e w' ⟨rfl, ⟨nd, rfl⟩⟩);(refine ⟨_, rfl, ?_⟩);(refine hK.out _ _ ⟨(blk_cell BK141.out 0).trans rfl, (blk_cell BK141.out 1).trans rfl, (blk_cell BK141.out 2).trans rfl, (blk_cell BK141.out 3).trans rfl, ((HB.out.cell (World.block_lt_of_cell? w _ hw150_0)).trans hw150_0), ((HB.out.cell (World.block_lt_of_cell? w _ hw150_1)).trans hw150_1), ((HB.out.cell (World.block_lt_of_cell? w _ hw150_2)).trans hw150_2), ((HB.out.cell (World.block_lt_of_cell? w _ hw152_0)).trans hw152_0), ((HB.out.cell (World.block_lt_of_cell? w _ hw152_1)).trans hw152_1), ((HB.out.cell (World.block_lt_of_cell? w _ hw152_2)).trans hw152_2)⟩ (fun hHeld => ?_));(clear hK K);(refine norm_ (a' := ?_) ?_ ?_)
            rotate_left
            ·show Act.put _ (some 73) _ = _
             simp only [Act.put, List.setIfInBounds_toArray, List.set_cons_zero, List.set_cons_succ, i64_w, i32_w]
             rfl
            refine pure_ (i := 10) (N := some 74) (v := ?_) (a' := ?_) #[true, true, true, true, true, true, true, true, true, true, true, true, true, true, true, true, true, true, false, false, true, false, false, false, false, false] rfl rfl (any_of HT_.out (by kernel_rfl)) (fun _ _ _ h => h) (Or.inl ⟨by rfl, ?_⟩) ?_ ?_
            rotate_left
            ·intro w'
             go_simp
             with_reducible rfl
            rotate_left
            ·simp only [Act.put, List.setIfInBounds_toArray, List.set_cons_zero, List.set_cons_succ, i64_w, i32_w]
             rfl
            (refine one_ (i := 18) (N := some 82) #[true, true, true, true, true, true, true, true, true, true, true, true, true, true, true, true, true, true, true, false, true, false, false, false, false, false] rfl rfl (one_of HT_.out (by kernel_rfl)) (by decide) (fun K hK => ?_));(refine goes_ Try.func9 (by kernel_rfl) rfl #[.int .i64 ((rd_T61 l2 x8_1).f1), .int .i64 (wrap64 (2 + t140))] (by rfl) rfl rfl (by (try simp only [List.map_toArray, List.map_cons, List.map_nil]); first | done | rfl | (simp only [List.length_drop, List.length_take]; rfl)) ?_)
            with_reducible refine (racewaylaw15_pick.calls ((rd_T61 l2 x8_1).f1) (wrap64 (2 + t140)) t153 _ A25.out).mono ?_
            (rintro e w' ⟨rfl, ⟨nd, rfl⟩⟩);(refine ⟨_, rfl, ?_⟩);(refine hK.out _ _ ⟨(blk_cell BK141.out 0).trans rfl, (blk_cell BK141.out 1).trans rfl, (blk_cell BK141.out 2).trans rfl, (blk_cell BK141.out 3).trans rfl, ((HB.out.cell (World.block_lt_of_cell? w _ hw150_0)).trans hw150_0), ((HB.out.cell (World.block_lt_of_cell? w _ hw150_1)).trans hw150_1), ((HB.out.cell (World.block_lt_of_cell? w _ hw150_2)).trans hw150_2), ((HB.out.cell (World.block_lt_of_cell? w _ hw152_0)).trans hw152_0), ((HB.out.cell (World.block_lt_of_cell? w _ hw152_1)).trans hw152_1), ((HB.out.cell (World.block_lt_of_cell? w _ hw152_2)).trans hw152_2)⟩ (fun hHeld => ?_));(clear hK K);(refine norm_ (a' := ?_) ?_ ?_)
            rotate_left
            ·show Act.put _ (some 82) _ = _
             simp only [Act.put, List.setIfInBounds_toArray, List.set_cons_zero, List.set_cons_succ, i64_w, i32_w]
             rfl
            refine pure_ (i := 19) (N := some 83) (v := ?_) (a' := ?_) #[true, true, true, true, true, true, true, true, true, true, true, true, true, true, true, true, true, true, true, true, true, false, false, false, false, false] rfl rfl (any_of HT_.out (by kernel_rfl)) (fun _ _ _ h => h) (Or.inl ⟨by rfl, ?_⟩) ?_ ?_
            rotate_left
            ·intro w'
             go_simp
             with_reducible rfl
            rotate_left
            ·simp only [Act.put, List.setIfInBounds_toArray, List.set_cons_zero, List.set_cons_succ, i64_w, i32_w]
             rfl
            refine pure_ (i := 21) (N := some 85) (v := ?_) (a' := ?_) #[true, true, true, true, true, true, true, true, true, true, true, true, true, true, true, true, true, true, true, true, true, true, false, false, false, false] rfl rfl (any_of HT_.out (by kernel_rfl)) (fun _ _ _ h => h) (Or.inl ⟨by rfl, ?_⟩) ?_ ?_
            rotate_left
            ·intro w'
             go_simp
             with_reducible rfl
            rotate_left
            ·simp only [Act.put, List.setIfInBounds_toArray, List.set_cons_zero, List.set_cons_succ, i64_w, i32_w]
             rfl
            (refine one_ (i := 22) (N := some 86) #[true, true, true, true, true, true, true, true, true, true, true, true, true, true, true, true, true, true, true, true, true, true, true, false, false, false] rfl rfl (one_of HT_.out (by kernel_rfl)) (by decide) (fun K hK => ?_));(refine value_ (w1 := ?_) (v := ?_) (by rfl) rfl ?_ ?_)
            rotate_left 2
            ·go_simp
             constructor
             ·rfl
             ·rfl
            (refine hK.out _ _ ⟨(blk_cell (blk_alloc BK141.out _) 0).trans rfl, (blk_cell (blk_alloc BK141.out _) 1).trans rfl, (blk_cell (blk_alloc BK141.out _) 2).trans rfl, (blk_cell (blk_alloc BK141.out _) 3).trans rfl, (World.cell?_alloc_lt _ _ _ (World.block_lt_of_cell? _ _ (((HB.out.cell (World.block_lt_of_cell? w _ hw150_0)).trans hw150_0)))).trans (((HB.out.cell (World.block_lt_of_cell? w _ hw150_0)).trans hw150_0)), (World.cell?_alloc_lt _ _ _ (World.block_lt_of_cell? _ _ (((HB.out.cell (World.block_lt_of_cell? w _ hw150_1)).trans hw150_1)))).trans (((HB.out.cell (World.block_lt_of_cell? w _ hw150_1)).trans hw150_1)), (World.cell?_alloc_lt _ _ _ (World.block_lt_of_cell? _ _ (((HB.out.cell (World.block_lt_of_cell? w _ hw150_2)).trans hw150_2)))).trans (((HB.out.cell (World.block_lt_of_cell? w _ hw150_2)).trans hw150_2)), (World.cell?_alloc_lt _ _ _ (World.block_lt_of_cell? _ _ (((HB.out.cell (World.block_lt_of_cell? w _ hw152_0)).trans hw152_0)))).trans (((HB.out.cell (World.block_lt_of_cell? w _ hw152_0)).trans hw152_0)), (World.cell?_alloc_lt _ _ _ (World.block_lt_of_cell? _ _ (((HB.out.cell (World.block_lt_of_cell? w _ hw152_1)).trans hw152_1)))).trans (((HB.out.cell (World.block_lt_of_cell? w _ hw152_1)).trans hw152_1)), (World.cell?_alloc_lt _ _ _ (World.block_lt_of_cell? _ _ (((HB.out.cell (World.block_lt_of_cell? w _ hw152_2)).trans hw152_2)))).trans (((HB.out.cell (World.block_lt_of_cell? w _ hw152_2)).trans hw152_2))⟩ (fun hHeld => ?_));(clear hK K);(refine norm_ (a' := ?_) ?_ ?_)
            rotate_left
            ·show Act.put _ (some 86) _ = _
             simp only [Act.put, List.setIfInBounds_toArray, List.set_cons_zero, List.set_cons_succ, i64_w, i32_w]
             rfl
            (refine one_ (i := 23) (N := some 87) #[true, true, true, true, true, true, true, true, true, true, true, true, true, true, true, true, true, true, true, true, true, true, true, true, false, false] rfl rfl (one_of HT_.out (by kernel_rfl)) (by decide) (fun K hK => ?_));(refine Kd.R_append_step k30 (w0 := w) w.heap.size (by rfl) (.tmp 65) (.tmp 86) 24 30 (.agg #[(.int .i64 0), (.int .i64 0), (.int .i64 0)]) 24 rfl Try.underlying24 info30 rfl (by decide) (by omega) u142003 x142003_1 (⟨wrap64 (1 + t151), wrap64 (1 + t153), t149⟩ : S30) [.int .i64 (wrap64 (1 + t151)), .int .i64 (wrap64 (1 + t153)), .int .i64 t149] (fun _ => True) (fun _ => False) rfl rfl ?aP (fun _ hk => hk.elim) ?aF ?aO ?aB ?aS ?aL ?_)
            (case aP => exact k30_mkM _ _ _ (⟨wrap64 (1 + t151), wrap64 (1 + t153), t149⟩ : S30))
            (case aB => exact (by repeat (first | (with_reducible first | exact HB.out | apply below_alloc | apply pw_below_drewN | apply below_drew1 | refine below_set ?_ GE139.out | refine below_set ?_ GE141.out) | exact HB.out)))
            (case aF => exact (fun _ _ => trivial))
            (case aO => exact (by (with_reducible repeat first | apply Kd.R_alloc | apply Kd.R_drewN | apply Kd.R_drew); exact HO_142003.out))
            (case aS => exact (below_size (by repeat (first | (with_reducible first | exact HB.out | apply below_alloc | apply pw_below_drewN | apply below_drew1 | refine below_set ?_ GE139.out | refine below_set ?_ GE141.out) | exact HB.out))))
            (case aL => have := LMc26.out; omega)
            (intro v155 w28 ho hb hg hat);(rw [← Ny154.out] at ho);(have n0_ := Aside0.mk (blk_grown (g := gb139) (o := .cells #[.int .i64 0, .int .i64 0, .int .i64 0, .slice none 0 0] 26 (0, 0)) (by (with_reducible repeat first | refine blk_drewN ?_ _ | refine blk_drew ?_ | refine blk_alloc ?_ _); exact BK139.out) hg (Kd.R_ne HO_142003.out BK139.out (by decide))));(have n1_ := Aside0.mk (blk_grown (g := gb141) (o := .cells #[.int .i64 (wrap64 (2 + t140)), .int .i64 (wrap64 (1 + t142)), .int .i64 (wrap64 (1 + (Int.tmod (wrap64 ((wrap64 (1 + t142)) + t143)) (wrap64 (2 + t140))))), u142003] 26 (0, 0)) (by (with_reducible repeat first | refine blk_drewN ?_ _ | refine blk_drew ?_ | refine blk_alloc ?_ _); exact BK141.out) hg (Kd.R_ne HO_142003.out BK141.out (by decide))));(have n2_ := Aside0.mk (hb));(have n3_ := Aside0.mk (ho));(clear BK139);(clear BK141);(clear HB);(clear HO_142003);(have BK139 := n0_);(have BK141 := n1_);(have HB := n2_);(have HO156 := n3_);(clear n0_ n1_ n2_ n3_);(clear ho hb hg hat);(obtain ⟨Ao29, co29, eo29⟩ := Kd.R_slice HO156.out);((first | subst eo29 | (injection eo29 with f1_ f2_ f3_; have f4_ := f1_.symm; have f5_ := f3_.symm; clear f1_ f2_ f3_; subst f4_; subst f5_)));(refine hK.out _ _ ⟨(blk_cell BK141.out 0).trans rfl, (blk_cell BK141.out 1).trans rfl, (blk_cell BK141.out 2).trans rfl, (blk_cell BK141.out 3).trans rfl, ((HB.out.cell (World.block_lt_of_cell? w _ hw150_0)).trans hw150_0), ((HB.out.cell (World.block_lt_of_cell? w _ hw150_1)).trans hw150_1), ((HB.out.cell (World.block_lt_of_cell? w _ hw150_2)).trans hw150_2), ((HB.out.cell (World.block_lt_of_cell? w _ hw152_0)).trans hw152_0), ((HB.out.cell (World.block_lt_of_cell? w _ hw152_1)).trans hw152_1), ((HB.out.cell (World.block_lt_of_cell? w _ hw152_2)).trans hw152_2)⟩ (fun hHeld => ?_));(clear hK K);(refine norm_ (a' := ?_) ?_ ?_)
            rotate_left
            ·show Act.put _ (some 87) _ = _
             simp only [Act.put, List.setIfInBounds_toArray, List.set_cons_zero, List.set_cons_succ, i64_w, i32_w]
             rfl
            refine pure_ (i := 24) (N := some 88) (v := ?_) (a' := ?_) #[true, true, true, true, true, true, true, true, true, true, true, true, true, true, true, true, true, true, true, true, true, true, true, true, true, false] rfl rfl (any_of HT_.out (by kernel_rfl)) (fun _ _ _ h => h) (Or.inl ⟨by rfl, ?_⟩) ?_ ?_
            rotate_left
            ·intro w'
             go_simp
             with_reducible rfl
            rotate_left
            ·simp only [Act.put, List.setIfInBounds_toArray, List.set_cons_zero, List.set_cons_succ, i64_w, i32_w]
             rfl
            (refine last_ (i := 25) (N := none) #[true, true, true, true, true, true, true, true, true, true, true, true, true, true, true, true, true, true, true, true, true, true, true, true, true, true] rfl rfl (one_of HT_.out (by kernel_rfl)) (by decide) (fun K hK => ?_));(have hs30 : w28.cell? ⟨gb141, 3, none⟩ = some (u142003) := (blk_cell BK141.out 3).trans rfl);(have hfs30 := blk_frozen BK141.out 3);(have hns30_0 := NB139_141.out);(have hms30_0 := NB141_139.out);(refine skip_ (w1 := ?_) (by rfl) rfl ?_ ?_)
            rotate_left
            ·go_simp
             rfl
            (refine hK.out _ _ ?_);(clear hK K);(refine done_ (done_of HT_.out (by kernel_rfl)) ?_)
            try go_wp2
            go_roundg kj14
            case measure => have := HK1.out; have := HJ14.out; omega
            case rel => exact ⟨(wrap64 (x8_1 + 1)), (y154), (.slice Ao29 y154.length co29), (by first | rfl | (simp; done) | (simp [*]; done)), H', ⟨by have := HK1.out; have := HJ14.out; omega⟩, ⟨by (with_reducible repeat first | apply Kd.R_alloc | apply Kd.R_drewN | apply Kd.R_drew); exact Kd.R_mono (Kd.R_far (p := ⟨gb141, 3, none⟩) (Kd.R_types HO156.out BK141.out (by decide)) (fun _ hk => hk.2) (.slice Ao29 y154.length co29)) (fun _ hk => trivial)⟩, ⟨by (with_reducible repeat first | refine blk_drewN ?_ _ | refine blk_drew ?_ | refine blk_alloc ?_ _); refine blk_far ?_ NB139_141.out _; (with_reducible repeat first | refine blk_drewN ?_ _ | refine blk_drew ?_ | refine blk_alloc ?_ _); exact BK139.out⟩, ⟨by (with_reducible repeat first | refine blk_drewN ?_ _ | refine blk_drew ?_ | refine blk_alloc ?_ _); refine blk_put (cs := #[.int .i64 (wrap64 (2 + t140)), .int .i64 (wrap64 (1 + t142)), .int .i64 (wrap64 (1 + (Int.tmod (wrap64 ((wrap64 (1 + t142)) + t143)) (wrap64 (2 + t140))))), u142003]) ?_ 3 _ rfl; (with_reducible repeat first | refine blk_drewN ?_ _ | refine blk_drew ?_ | refine blk_alloc ?_ _); exact BK141.out⟩, ⟨by repeat (first | (with_reducible first | exact HB.out | apply below_alloc | apply pw_below_drewN | apply below_drew1 | refine below_set ?_ GE139.out | refine below_set ?_ GE141.out) | exact HB.out)⟩⟩
          ·(rw [if_neg c26] at H);(exact absurd H (by simp))
         ·(rw [if_neg c22] at H);(have c22b0 : (t147 == 0) = false := beq_eq_false_iff_ne.mpr c22);(have c22b1 : (t147 != 0) = true := bne_iff_ne.mpr c22);(replace H := Option.bind_eq_some_iff.mp H);(obtain ⟨t158, A310, H⟩ := H);(replace H : ((racewaylaw15_pick.f ((rd_T61 l2 x8_1).f1) (wrap64 (2 + t140))).bind fun t160 => (if x142003_1.length < 5864062014805 then (racewaylaw15_made.l0 kj14 l2 (wrap64 (x8_1 + 1)) (wrap64 (2 + t140)) (wrap64 (1 + t142)) (wrap64 (1 + (Int.tmod (wrap64 ((wrap64 (1 + t142)) + t143)) (wrap64 (2 + t140))))) (x142003_1 ++ [(⟨wrap64 (1 + t158), wrap64 (1 + t160), t145⟩ : S30)])) else (none))) = some (r1, r2, r3, r4) := H);(have A31 := Aside0.mk A310);(clear A310);(replace H := Option.bind_eq_some_iff.mp H);(obtain ⟨t160, A320, H⟩ := H);(replace H : (if x142003_1.length < 5864062014805 then (racewaylaw15_made.l0 kj14 l2 (wrap64 (x8_1 + 1)) (wrap64 (2 + t140)) (wrap64 (1 + t142)) (wrap64 (1 + (Int.tmod (wrap64 ((wrap64 (1 + t142)) + t143)) (wrap64 (2 + t140))))) (x142003_1 ++ [(⟨wrap64 (1 + t158), wrap64 (1 + t160), t145⟩ : S30)])) else (none)) = some (r1, r2, r3, r4) := H);(have A32 := Aside0.mk A320);(clear A320)
          by_cases c33 : x142003_1.length < 5864062014805
          ·(rw [if_pos c33] at H);(have LMc33 := Aside0.mk c33);(clear c33);(obtain ⟨y161, hy161⟩ : ∃ y_ : List (S30), y_ = (x142003_1 ++ [(⟨wrap64 (1 + t158), wrap64 (1 + t160), t145⟩ : S30)]) := ⟨_, rfl⟩);(replace H : (racewaylaw15_made.l0 kj14 l2 (wrap64 (x8_1 + 1)) (wrap64 (2 + t140)) (wrap64 (1 + t142)) (wrap64 (1 + (Int.tmod (wrap64 ((wrap64 (1 + t142)) + t143)) (wrap64 (2 + t140))))) y161) = some (r1, r2, r3, r4) := by first | (rw [hy161]; with_reducible exact H) | (have H2_ := (Option.bind_some _ _).symm.trans H; rw [hy161]; with_reducible exact H2_) | (have H2_ := (Option.bind_some _ _).symm.trans H; with_reducible exact H2_) | with_reducible exact H | (rw [hy161]; exact H) | exact H);(have Ny161 := Aside0.mk hy161);(clear hy161)
           as_aux_lemma =>
            (have H' := Aside0.mk H);(clear H);(have p144 : 0 ≤ (x8_1 : Int) := of_decide_eq_true (by first | (with_reducible assumption) | assumption));(have q144 : x8_1 < (l2.length : Int) := of_decide_eq_true (by first | (with_reducible assumption) | assumption));(obtain ⟨ad144, e144, hx144_0, hx144_1, hx144_2⟩ := at_T61 HR2.out x8_1 p144 q144);(cases e144);(replace hx144_0 := (HB.out.cell (World.block_lt_of_cell? w _ hx144_0)).trans hx144_0);(replace hx144_1 := (HB.out.cell (World.block_lt_of_cell? w _ hx144_1)).trans hx144_1);(replace hx144_2 := (HB.out.cell (World.block_lt_of_cell? w _ hx144_2)).trans hx144_2);(replace p144 := eq_true p144);(replace q144 := eq_true q144)
            try go_wp2_with (first | ((with_reducible refine gate_callee (f := 9) rfl ?_); refine goesL_ (some 49) rfl rfl Try.func9 (by kernel_rfl) rfl #[.int .i64 ((rd_T61 l2 x8_1).f2), .int .i64 21] rfl (by (try simp only [List.map_toArray, List.map_cons, List.map_nil]); first | done | rfl | (simp only [List.length_drop, List.length_take]; rfl)) ?_; (with_reducible refine (racewaylaw15_pick.calls ((rd_T61 l2 x8_1).f2) 21 t145 _ A20.out).mono ?_); rintro e w' ⟨rfl, ⟨nd, rfl⟩⟩; refine ⟨_, rfl, ?_⟩; (try (rw [drewN_self wc]; generalize hq_ : World.drewN wc _ = wc; have n0_ : Aside0 (Kd.R k30 30 wc w.heap.size (fun _ => True) u142003 x142003_1) := ⟨by rw [← hq_]; exact (by (with_reducible repeat first | apply Kd.R_alloc | apply Kd.R_drewN | apply Kd.R_drew); exact HO_142003.out)⟩; have n1_ : Aside0 (wc.heap[gb139]? = some (.cells #[.int .i64 0, .int .i64 0, .int .i64 0, .slice none 0 0] 26 (0, 0))) := ⟨by rw [← hq_]; exact (by (with_reducible repeat first | refine blk_drewN ?_ _ | refine blk_drew ?_ | refine blk_alloc ?_ _); exact BK139.out)⟩; have n2_ : Aside0 (wc.heap[gb141]? = some (.cells #[.int .i64 (wrap64 (2 + t140)), .int .i64 (wrap64 (1 + t142)), .int .i64 (wrap64 (1 + (Int.tmod (wrap64 ((wrap64 (1 + t142)) + t143)) (wrap64 (2 + t140))))), u142003] 26 (0, 0))) := ⟨by rw [← hq_]; exact (by (with_reducible repeat first | refine blk_drewN ?_ _ | refine blk_drew ?_ | refine blk_alloc ?_ _); exact BK141.out)⟩; have n3_ : Aside0 (Below w.heap.size w wc) := ⟨by rw [← hq_]; exact (by repeat (first | (with_reducible first | exact HB.out | apply below_alloc | apply pw_below_drewN | apply below_drew1 | refine below_set ?_ GE139.out | refine below_set ?_ GE141.out) | exact HB.out))⟩; clear HO_142003 BK139 BK141 HB hq_; have HO_142003 := n0_; have BK139 := n1_; have BK141 := n2_; have HB := n3_; clear n0_ n1_ n2_ n3_; have hcqBK139_0 : wc.cell? ⟨gb139, 0, none⟩ = some (.int .i64 0) := (blk_cell BK139.out 0).trans rfl; have hfqBK139_0 := blk_frozen BK139.out 0; have hcqBK139_1 : wc.cell? ⟨gb139, 1, none⟩ = some (.int .i64 0) := (blk_cell BK139.out 1).trans rfl; have hfqBK139_1 := blk_frozen BK139.out 1; have hcqBK139_2 : wc.cell? ⟨gb139, 2, none⟩ = some (.int .i64 0) := (blk_cell BK139.out 2).trans rfl; have hfqBK139_2 := blk_frozen BK139.out 2; have hcqBK139_3 : wc.cell? ⟨gb139, 3, none⟩ = some (.slice none 0 0) := (blk_cell BK139.out 3).trans rfl; have hfqBK139_3 := blk_frozen BK139.out 3; have hcqBK141_0 : wc.cell? ⟨gb141, 0, none⟩ = some (.int .i64 (wrap64 (2 + t140))) := (blk_cell BK141.out 0).trans rfl; have hfqBK141_0 := blk_frozen BK141.out 0; have hcqBK141_1 : wc.cell? ⟨gb141, 1, none⟩ = some (.int .i64 (wrap64 (1 + t142))) := (blk_cell BK141.out 1).trans rfl; have hfqBK141_1 := blk_frozen BK141.out 1; have hcqBK141_2 : wc.cell? ⟨gb141, 2, none⟩ = some (.int .i64 (wrap64 (1 + (Int.tmod (wrap64 ((wrap64 (1 + t142)) + t143)) (wrap64 (2 + t140)))))) := (blk_cell BK141.out 2).trans rfl; have hfqBK141_2 := blk_frozen BK141.out 2; have hcqBK141_3 : wc.cell? ⟨gb141, 3, none⟩ = some (u142003) := (blk_cell BK141.out 3).trans rfl; have hfqBK141_3 := blk_frozen BK141.out 3)); have p146 : 0 ≤ (x8_1 : Int) := of_decide_eq_true (by first | (with_reducible assumption) | assumption); have q146 : x8_1 < (l2.length : Int) := of_decide_eq_true (by first | (with_reducible assumption) | assumption); obtain ⟨ad146, e146, hx146_0, hx146_1, hx146_2⟩ := at_T61 HR2.out x8_1 p146 q146; obtain rfl : ad144 = ad146 := (by injection e146); replace hx146_0 := (HB.out.cell (World.block_lt_of_cell? w _ hx146_0)).trans hx146_0; replace hx146_1 := (HB.out.cell (World.block_lt_of_cell? w _ hx146_1)).trans hx146_1; replace hx146_2 := (HB.out.cell (World.block_lt_of_cell? w _ hx146_2)).trans hx146_2; replace p146 := eq_true p146; replace q146 := eq_true q146) | ((with_reducible refine gate_callee (f := 9) rfl ?_); refine goesL_ (some 56) rfl rfl Try.func9 (by kernel_rfl) rfl #[.int .i64 (wrap64 (Int.tdiv ((rd_T61 l2 x8_1).f2) 21)), .int .i64 9] rfl (by (try simp only [List.map_toArray, List.map_cons, List.map_nil]); first | done | rfl | (simp only [List.length_drop, List.length_take]; rfl)) ?_; (with_reducible refine (racewaylaw15_pick.calls (wrap64 (Int.tdiv ((rd_T61 l2 x8_1).f2) 21)) 9 t147 _ A21.out).mono ?_); rintro e w' ⟨rfl, ⟨nd, rfl⟩⟩; refine ⟨_, rfl, ?_⟩; (try (rw [drewN_self wc]; generalize hq_ : World.drewN wc _ = wc; have n0_ : Aside0 (Kd.R k30 30 wc w.heap.size (fun _ => True) u142003 x142003_1) := ⟨by rw [← hq_]; exact (by (with_reducible repeat first | apply Kd.R_alloc | apply Kd.R_drewN | apply Kd.R_drew); exact HO_142003.out)⟩; have n1_ : Aside0 (wc.heap[gb139]? = some (.cells #[.int .i64 0, .int .i64 0, .int .i64 0, .slice none 0 0] 26 (0, 0))) := ⟨by rw [← hq_]; exact (by (with_reducible repeat first | refine blk_drewN ?_ _ | refine blk_drew ?_ | refine blk_alloc ?_ _); exact BK139.out)⟩; have n2_ : Aside0 (wc.heap[gb141]? = some (.cells #[.int .i64 (wrap64 (2 + t140)), .int .i64 (wrap64 (1 + t142)), .int .i64 (wrap64 (1 + (Int.tmod (wrap64 ((wrap64 (1 + t142)) + t143)) (wrap64 (2 + t140))))), u142003] 26 (0, 0))) := ⟨by rw [← hq_]; exact (by (with_reducible repeat first | refine blk_drewN ?_ _ | refine blk_drew ?_ | refine blk_alloc ?_ _); exact BK141.out)⟩; have n3_ : Aside0 (Below w.heap.size w wc) := ⟨by rw [← hq_]; exact (by repeat (first | (with_reducible first | exact HB.out | apply below_alloc | apply pw_below_drewN | apply below_drew1 | refine below_set ?_ GE139.out | refine below_set ?_ GE141.out) | exact HB.out))⟩; clear HO_142003 BK139 BK141 HB hq_; have HO_142003 := n0_; have BK139 := n1_; have BK141 := n2_; have HB := n3_; clear n0_ n1_ n2_ n3_; have hcqBK139_0 : wc.cell? ⟨gb139, 0, none⟩ = some (.int .i64 0) := (blk_cell BK139.out 0).trans rfl; have hfqBK139_0 := blk_frozen BK139.out 0; have hcqBK139_1 : wc.cell? ⟨gb139, 1, none⟩ = some (.int .i64 0) := (blk_cell BK139.out 1).trans rfl; have hfqBK139_1 := blk_frozen BK139.out 1; have hcqBK139_2 : wc.cell? ⟨gb139, 2, none⟩ = some (.int .i64 0) := (blk_cell BK139.out 2).trans rfl; have hfqBK139_2 := blk_frozen BK139.out 2; have hcqBK139_3 : wc.cell? ⟨gb139, 3, none⟩ = some (.slice none 0 0) := (blk_cell BK139.out 3).trans rfl; have hfqBK139_3 := blk_frozen BK139.out 3; have hcqBK141_0 : wc.cell? ⟨gb141, 0, none⟩ = some (.int .i64 (wrap64 (2 + t140))) := (blk_cell BK141.out 0).trans rfl; have hfqBK141_0 := blk_frozen BK141.out 0; have hcqBK141_1 : wc.cell? ⟨gb141, 1, none⟩ = some (.int .i64 (wrap64 (1 + t142))) := (blk_cell BK141.out 1).trans rfl; have hfqBK141_1 := blk_frozen BK141.out 1; have hcqBK141_2 : wc.cell? ⟨gb141, 2, none⟩ = some (.int .i64 (wrap64 (1 + (Int.tmod (wrap64 ((wrap64 (1 + t142)) + t143)) (wrap64 (2 + t140)))))) := (blk_cell BK141.out 2).trans rfl; have hfqBK141_2 := blk_frozen BK141.out 2; have hcqBK141_3 : wc.cell? ⟨gb141, 3, none⟩ = some (u142003) := (blk_cell BK141.out 3).trans rfl; have hfqBK141_3 := blk_frozen BK141.out 3))))
            (have n0_ := Aside0.mk (Kd.R_drew HO_142003.out));(have n1_ := Aside0.mk (blk_drew BK139.out));(have n2_ := Aside0.mk (blk_drew BK141.out));(have n3_ := Aside0.mk (below_drew1 HB.out));(clear HO_142003);(clear BK139);(clear BK141);(clear HB);(have HO_142003 := n0_);(have BK139 := n1_);(have BK141 := n2_);(have HB := n3_);(clear n0_ n1_ n2_ n3_);(have p157 : 0 ≤ (x8_1 : Int) := of_decide_eq_true (by first | (with_reducible assumption) | assumption));(have q157 : x8_1 < (l2.length : Int) := of_decide_eq_true (by first | (with_reducible assumption) | assumption));(obtain ⟨ad157, e157, hx157_0, hx157_1, hx157_2⟩ := at_T61 HR2.out x8_1 p157 q157);(have hw157_2 := hx157_2);(have hw157_1 := hx157_1);(have hw157_0 := hx157_0);(obtain rfl : ad144 = ad157 := (by injection e157));(replace hx157_0 := (HB.out.cell (World.block_lt_of_cell? w _ hx157_0)).trans hx157_0);(replace hx157_1 := (HB.out.cell (World.block_lt_of_cell? w _ hx157_1)).trans hx157_1);(replace hx157_2 := (HB.out.cell (World.block_lt_of_cell? w _ hx157_2)).trans hx157_2);(replace p157 := eq_true p157);(replace q157 := eq_true q157);(have p159 : 0 ≤ (x8_1 : Int) := of_decide_eq_true (by first | (with_reducible assumption) | assumption));(have q159 : x8_1 < (l2.length : Int) := of_decide_eq_true (by first | (with_reducible assumption) | assumption));(obtain ⟨ad159, e159, hx159_0, hx159_1, hx159_2⟩ := at_T61 HR2.out x8_1 p159 q159);(have hw159_2 := hx159_2);(have hw159_1 := hx159_1);(have hw159_0 := hx159_0);(obtain rfl : ad144 = ad159 := (by injection e159));(replace hx159_0 := (HB.out.cell (World.block_lt_of_cell? w _ hx159_0)).trans hx159_0);(replace hx159_1 := (HB.out.cell (World.block_lt_of_cell? w _ hx159_1)).trans hx159_1);(replace hx159_2 := (HB.out.cell (World.block_lt_of_cell? w _ hx159_2)).trans hx159_2);(replace p159 := eq_true p159);(replace q159 := eq_true q159);(refine start_ (n := 26) (S := fun w' => w'.cell? ⟨gb141, 0, none⟩ = some (.int .i64 (wrap64 (2 + t140))) ∧ w'.cell? ⟨gb141, 1, none⟩ = some (.int .i64 (wrap64 (1 + t142))) ∧ w'.cell? ⟨gb141, 2, none⟩ = some (.int .i64 (wrap64 (1 + (Int.tmod (wrap64 ((wrap64 (1 + t142)) + t143)) (wrap64 (2 + t140)))))) ∧ w'.cell? ⟨gb141, 3, none⟩ = some (u142003) ∧ w'.cell? (ad144.add ((x8_1).toNat * 3)) = some (.int .i64 ((rd_T61 l2 x8_1).f0)) ∧ w'.cell? ⟨(ad144.add ((x8_1).toNat * 3)).block, (ad144.add ((x8_1).toNat * 3)).off + 1, none⟩ = some (.int .i64 ((rd_T61 l2 x8_1).f1)) ∧ w'.cell? ⟨(ad144.add ((x8_1).toNat * 3)).block, (ad144.add ((x8_1).toNat * 3)).off + 2, none⟩ = some (.int .i64 ((rd_T61 l2 x8_1).f2)) ∧ w'.cell? (ad144.add ((x8_1).toNat * 3)) = some (.int .i64 ((rd_T61 l2 x8_1).f0)) ∧ w'.cell? ⟨(ad144.add ((x8_1).toNat * 3)).block, (ad144.add ((x8_1).toNat * 3)).off + 1, none⟩ = some (.int .i64 ((rd_T61 l2 x8_1).f1)) ∧ w'.cell? ⟨(ad144.add ((x8_1).toNat * 3)).block, (ad144.add ((x8_1).toNat * 3)).off + 2, none⟩ = some (.int .i64 ((rd_T61 l2 x8_1).f2))) (ds := [25]) #[false, false, false, false, false, false, false, false, false, false, false, false, false, false, false, false, false, false, false, false, false, false, false, false, false, false] (by kernel_rfl) rfl rfl ⟨(blk_cell BK141.out 0).trans rfl, (blk_cell BK141.out 1).trans rfl, (blk_cell BK141.out 2).trans rfl, (blk_cell BK141.out 3).trans rfl, ((HB.out.cell (World.block_lt_of_cell? w _ hw157_0)).trans hw157_0), ((HB.out.cell (World.block_lt_of_cell? w _ hw157_1)).trans hw157_1), ((HB.out.cell (World.block_lt_of_cell? w _ hw157_2)).trans hw157_2), ((HB.out.cell (World.block_lt_of_cell? w _ hw159_0)).trans hw159_0), ((HB.out.cell (World.block_lt_of_cell? w _ hw159_1)).trans hw159_1), ((HB.out.cell (World.block_lt_of_cell? w _ hw159_2)).trans hw159_2)⟩ (fun hHeld => ?_); refine with_tabW racewaylaw15_made.tab10 racewaylaw15_made.bits10 (fun HT_ HW_ => ?_));(generalize wc.drew = w34 at HO_142003 BK139 BK141 HB hx157_0 hx157_1 hx157_2 hx159_0 hx159_1 hx159_2 hHeld ⊢);(refine pure_ (i := 0) (N := some 64) (v := ?_) (a' := ?_) #[true, false, false, false, false, false, false, false, false, false, false, false, false, false, false, false, false, false, false, false, false, false, false, false, false, false] rfl rfl (any_of HT_.out (by kernel_rfl)) (fun _ _ _ h => h) (Or.inl ⟨by rfl, ?_⟩) ?_ ?_)
            rotate_left
            ·intro w'
             go_simp
             with_reducible rfl
            rotate_left
            ·simp only [Act.put, List.setIfInBounds_toArray, List.set_cons_zero, List.set_cons_succ, i64_w, i32_w]
             rfl
            refine pure_ (i := 2) (N := some 66) (v := ?_) (a' := ?_) #[true, false, true, false, false, false, false, false, false, false, false, false, false, false, false, false, false, false, false, false, false, false, false, false, false, false] rfl rfl (any_of HT_.out (by kernel_rfl)) (fun _ _ _ h => h) (Or.inl ⟨by rfl, ?_⟩) ?_ ?_
            rotate_left
            ·intro w'
             go_simp
             with_reducible rfl
            rotate_left
            ·simp only [Act.put, List.setIfInBounds_toArray, List.set_cons_zero, List.set_cons_succ, i64_w, i32_w]
             rfl
            refine pure_ (i := 3) (N := some 67) (v := ?_) (a' := ?_) #[true, false, true, true, false, false, false, false, false, false, false, false, false, false, false, false, false, false, false, false, false, false, false, false, false, false] rfl rfl (any_of HT_.out (by kernel_rfl)) (fun _ _ _ h => h) (Or.inl ⟨by rfl, ?_⟩) ?_ ?_
            rotate_left
            ·intro w'
             go_simp
             with_reducible rfl
            rotate_left
            ·simp only [Act.put, List.setIfInBounds_toArray, List.set_cons_zero, List.set_cons_succ, i64_w, i32_w]
             rfl
            refine pure_ (i := 4) (N := some 68) (v := ?_) (a' := ?_) #[true, false, true, true, true, false, false, false, false, false, false, false, false, false, false, false, false, false, false, false, false, false, false, false, false, false] rfl rfl (any_of HT_.out (by kernel_rfl)) (fun _ _ _ h => h) (Or.inl ⟨by rfl, ?_⟩) ?_ ?_
            rotate_left
            ·intro w'
             go_simp
             with_reducible rfl
            rotate_left
            ·simp only [Act.put, List.setIfInBounds_toArray, List.set_cons_zero, List.set_cons_succ, i64_w, i32_w]
             rfl
            refine pure_ (i := 5) (N := some 69) (v := ?_) (a' := ?_) #[true, false, true, true, true, true, false, false, false, false, false, false, false, false, false, false, false, false, false, false, false, false, false, false, false, false] rfl rfl (any_of HT_.out (by kernel_rfl)) (fun _ _ _ h => h) (Or.inl ⟨by rfl, ?_⟩) ?_ ?_
            rotate_left
            ·intro w'
             go_simp
             with_reducible rfl
            rotate_left
            ·simp only [Act.put, List.setIfInBounds_toArray, List.set_cons_zero, List.set_cons_succ, i64_w, i32_w]
             rfl
            refine pure_ (i := 7) (N := some 71) (v := ?_) (a' := ?_) #[true, false, true, true, true, true, false, true, false, false, false, false, false, false, false, false, false, false, false, false, false, false, false, false, false, false] rfl rfl (any_of HT_.out (by kernel_rfl)) (fun _ _ _ h => h) (Or.inl ⟨by rfl, ?_⟩) ?_ ?_
            rotate_left
            ·intro w'
             go_simp
             with_reducible rfl
            rotate_left
            ·simp only [Act.put, List.setIfInBounds_toArray, List.set_cons_zero, List.set_cons_succ, i64_w, i32_w]
             rfl
            refine pure_ (i := 11) (N := some 75) (v := ?_) (a' := ?_) #[true, false, true, true, true, true, false, true, false, false, false, true, false, false, false, false, false, false, false, false, false, false, false, false, false, false] rfl rfl (any_of HT_.out (by kernel_rfl)) (fun _ _ _ h => h) (Or.inl ⟨by rfl, ?_⟩) ?_ ?_
            rotate_left
            ·intro w'
             go_simp
             with_reducible rfl
            rotate_left
            ·simp only [Act.put, List.setIfInBounds_toArray, List.set_cons_zero, List.set_cons_succ, i64_w, i32_w]
             rfl
            refine pure_ (i := 12) (N := some 76) (v := ?_) (a' := ?_) #[true, false, true, true, true, true, false, true, false, false, false, true, true, false, false, false, false, false, false, false, false, false, false, false, false, false] rfl rfl (any_of HT_.out (by kernel_rfl)) (fun _ _ _ h => h) (Or.inl ⟨by rfl, ?_⟩) ?_ ?_
            rotate_left
            ·intro w'
             go_simp
             with_reducible rfl
            rotate_left
            ·simp only [Act.put, List.setIfInBounds_toArray, List.set_cons_zero, List.set_cons_succ, i64_w, i32_w]
             rfl
            refine pure_ (i := 13) (N := some 77) (v := ?_) (a' := ?_) #[true, false, true, true, true, true, false, true, false, false, false, true, true, true, false, false, false, false, false, false, false, false, false, false, false, false] rfl rfl (any_of HT_.out (by kernel_rfl)) (fun _ _ _ h => h) (Or.inl ⟨by rfl, ?_⟩) ?_ ?_
            rotate_left
            ·intro w'
             go_simp
             with_reducible rfl
            rotate_left
            ·simp only [Act.put, List.setIfInBounds_toArray, List.set_cons_zero, List.set_cons_succ, i64_w, i32_w]
             rfl
            refine pure_ (i := 14) (N := some 78) (v := ?_) (a' := ?_) #[true, false, true, true, true, true, false, true, false, false, false, true, true, true, true, false, false, false, false, false, false, false, false, false, false, false] rfl rfl (any_of HT_.out (by kernel_rfl)) (fun _ _ _ h => h) (Or.inl ⟨by rfl, ?_⟩) ?_ ?_
            rotate_left
            ·intro w'
             go_simp
             with_reducible rfl
            rotate_left
            ·simp only [Act.put, List.setIfInBounds_toArray, List.set_cons_zero, List.set_cons_succ, i64_w, i32_w]
             rfl
            refine pure_ (i := 16) (N := some 80) (v := ?_) (a' := ?_) #[true, false, true, true, true, true, false, true, false, false, false, true, true, true, true, false, true, false, false, false, false, false, false, false, false, false] rfl rfl (any_of HT_.out (by kernel_rfl)) (fun _ _ _ h => h) (Or.inl ⟨by rfl, ?_⟩) ?_ ?_
            rotate_left
            ·intro w'
             go_simp
             with_reducible rfl
            rotate_left
            ·simp only [Act.put, List.setIfInBounds_toArray, List.set_cons_zero, List.set_cons_succ, i64_w, i32_w]
             rfl
            refine pure_ (i := 20) (N := some 84) (v := ?_) (a' := ?_) #[true, false, true, true, true, true, false, true, false, false, false, true, true, true, true, false, true, false, false, false, true, false, false, false, false, false] rfl rfl (any_of HT_.out (by kernel_rfl)) (fun _ _ _ h => h) (Or.inl ⟨by rfl, ?_⟩) ?_ ?_
            rotate_left
            ·intro w'
             go_simp
             with_reducible rfl
            rotate_left
            ·simp only [Act.put, List.setIfInBounds_toArray, List.set_cons_zero, List.set_cons_succ, i64_w, i32_w]
             rfl
            refine take_ (i := 1) (N := some 65) (v := ?_) (a' := ?_) #[true, true, true, true, true, true, false, true, false, false, false, true, true, true, true, false, true, false, false, false, true, false, false, false, false, false] rfl rfl (take_ofW HT_.out HW_.out (by kernel_rfl)) (fun _ _ _ h => h) (Or.inl ⟨by rfl, ?_⟩) hHeld ?_ ?_
            rotate_left
            ·rintro w' ⟨s0, s1, s2, s3, s4, s5, s6, s7, s8, s9⟩
             go_simp
             with_reducible rfl
            rotate_left
            ·simp only [Act.put, List.setIfInBounds_toArray, List.set_cons_zero, List.set_cons_succ, i64_w, i32_w]
             rfl
            refine take_ (i := 6) (N := some 70) (v := ?_) (a' := ?_) #[true, true, true, true, true, true, true, true, false, false, false, true, true, true, true, false, true, false, false, false, true, false, false, false, false, false] rfl rfl (take_ofW HT_.out HW_.out (by kernel_rfl)) (fun _ _ _ h => h) (Or.inl ⟨by rfl, ?_⟩) hHeld ?_ ?_
            rotate_left
            ·rintro w' ⟨s0, s1, s2, s3, s4, s5, s6, s7, s8, s9⟩
             go_simp
             with_reducible rfl
            rotate_left
            ·simp only [Act.put, List.setIfInBounds_toArray, List.set_cons_zero, List.set_cons_succ, i64_w, i32_w]
             rfl
            refine take_ (i := 8) (N := some 72) (v := ?_) (a' := ?_) #[true, true, true, true, true, true, true, true, true, false, false, true, true, true, true, false, true, false, false, false, true, false, false, false, false, false] rfl rfl (take_ofW HT_.out HW_.out (by kernel_rfl)) (fun _ _ _ h => h) (Or.inl ⟨by rfl, ?_⟩) hHeld ?_ ?_
            rotate_left
            ·rintro w' ⟨s0, s1, s2, s3, s4, s5, s6, s7, s8, s9⟩
             go_simp
             with_reducible rfl
            rotate_left
            ·simp only [Act.put, List.setIfInBounds_toArray, List.set_cons_zero, List.set_cons_succ, i64_w, i32_w]
             rfl
            refine take_ (i := 15) (N := some 79) (v := ?_) (a' := ?_) #[true, true, true, true, true, true, true, true, true, false, false, true, true, true, true, true, true, false, false, false, true, false, false, false, false, false] rfl rfl (take_ofW HT_.out HW_.out (by kernel_rfl)) (fun _ _ _ h => h) (Or.inl ⟨by rfl, ?_⟩) hHeld ?_ ?_
            rotate_left
            ·rintro w' ⟨s0, s1, s2, s3, s4, s5, s6, s7, s8, s9⟩
             go_simp
             with_reducible rfl
            rotate_left
            ·simp only [Act.put, List.setIfInBounds_toArray, List.set_cons_zero, List.set_cons_succ, i64_w, i32_w]
             rfl
            refine take_ (i := 17) (N := some 81) (v := ?_) (a' := ?_) #[true, true, true, true, true, true, true, true, true, false, false, true, true, true, true, true, true, true, false, false, true, false, false, false, false, false] rfl rfl (take_ofW HT_.out HW_.out (by kernel_rfl)) (fun _ _ _ h => h) (Or.inl ⟨by rfl, ?_⟩) hHeld ?_ ?_
            rotate_left
            ·rintro w' ⟨s0, s1, s2, s3, s4, s5, s6, s7, s8, s9⟩
             go_simp
             with_reducible rfl
            rotate_left
            ·simp only [Act.put, List.setIfInBounds_toArray, List.set_cons_zero, List.set_cons_succ, i64_w, i32_w]
             rfl
            (refine one_ (i := 9) (N := some 73) #[true, true, true, true, true, true, true, true, true, true, false, true, true, true, true, true, true, true, false, false, true, false, false, false, false, false] rfl rfl (one_of HT_.out (by kernel_rfl)) (by decide) (fun K hK => ?_));(refine goes_ Try.func9 (by kernel_rfl) rfl #[.int .i64 ((rd_T61 l2 x8_1).f0), .int .i64 (wrap64 (2 + t140))] (by rfl) rfl rfl (by (try simp only [List.map_toArray, List.map_cons, List.map_nil]); first | done | rfl | (simp only [List.length_drop, List.length_take]; rfl)) ?_)
            with_reducible refine (racewaylaw15_pick.calls ((rd_T61 l2 x8_1).f0) (wrap64 (2 + t140)) t158 _ A31.out).mono ?_
            (rintro e w' ⟨rfl, ⟨nd, rfl⟩⟩);(refine ⟨_, rfl, ?_⟩);(refine hK.out _ _ ⟨(blk_cell BK141.out 0).trans rfl, (blk_cell BK141.out 1).trans rfl, (blk_cell BK141.out 2).trans rfl, (blk_cell BK141.out 3).trans rfl, ((HB.out.cell (World.block_lt_of_cell? w _ hw157_0)).trans hw157_0), ((HB.out.cell (World.block_lt_of_cell? w _ hw157_1)).trans hw157_1), ((HB.out.cell (World.block_lt_of_cell? w _ hw157_2)).trans hw157_2), ((HB.out.cell (World.block_lt_of_cell? w _ hw159_0)).trans hw159_0), ((HB.out.cell (World.block_lt_of_cell? w _ hw159_1)).trans hw159_1), ((HB.out.cell (World.block_lt_of_cell? w _ hw159_2)).trans hw159_2)⟩ (fun hHeld => ?_));(clear hK K);(refine norm_ (a' := ?_) ?_ ?_)
            rotate_left
            ·show Act.put _ (some 73) _ = _
             simp only [Act.put, List.setIfInBounds_toArray, List.set_cons_zero, List.set_cons_succ, i64_w, i32_w]
             rfl
            refine pure_ (i := 10) (N := some 74) (v := ?_) (a' := ?_) #[true, true, true, true, true, true, true, true, true, true, true, true, true, true, true, true, true, true, false, false, true, false, false, false, false, false] rfl rfl (any_of HT_.out (by kernel_rfl)) (fun _ _ _ h => h) (Or.inl ⟨by rfl, ?_⟩) ?_ ?_
            rotate_left
            ·intro w'
             go_simp
             with_reducible rfl
            rotate_left
            ·simp only [Act.put, List.setIfInBounds_toArray, List.set_cons_zero, List.set_cons_succ, i64_w, i32_w]
             rfl
            (refine one_ (i := 18) (N := some 82) #[true, true, true, true, true, true, true, true, true, true, true, true, true, true, true, true, true, true, true, false, true, false, false, false, false, false] rfl rfl (one_of HT_.out (by kernel_rfl)) (by decide) (fun K hK => ?_));(refine goes_ Try.func9 (by kernel_rfl) rfl #[.int .i64 ((rd_T61 l2 x8_1).f1), .int .i64 (wrap64 (2 + t140))] (by rfl) rfl rfl (by (try simp only [List.map_toArray, List.map_cons, List.map_nil]); first | done | rfl | (simp only [List.length_drop, List.length_take]; rfl)) ?_)
            with_reducible refine (racewaylaw15_pick.calls ((rd_T61 l2 x8_1).f1) (wrap64 (2 + t140)) t160 _ A32.out).mono ?_
            (rintro e w' ⟨rfl, ⟨nd, rfl⟩⟩);(refine ⟨_, rfl, ?_⟩);(refine hK.out _ _ ⟨(blk_cell BK141.out 0).trans rfl, (blk_cell BK141.out 1).trans rfl, (blk_cell BK141.out 2).trans rfl, (blk_cell BK141.out 3).trans rfl, ((HB.out.cell (World.block_lt_of_cell? w _ hw157_0)).trans hw157_0), ((HB.out.cell (World.block_lt_of_cell? w _ hw157_1)).trans hw157_1), ((HB.out.cell (World.block_lt_of_cell? w _ hw157_2)).trans hw157_2), ((HB.out.cell (World.block_lt_of_cell? w _ hw159_0)).trans hw159_0), ((HB.out.cell (World.block_lt_of_cell? w _ hw159_1)).trans hw159_1), ((HB.out.cell (World.block_lt_of_cell? w _ hw159_2)).trans hw159_2)⟩ (fun hHeld => ?_));(clear hK K);(refine norm_ (a' := ?_) ?_ ?_)
            rotate_left
            ·show Act.put _ (some 82) _ = _
             simp only [Act.put, List.setIfInBounds_toArray, List.set_cons_zero, List.set_cons_succ, i64_w, i32_w]
             rfl
            refine pure_ (i := 19) (N := some 83) (v := ?_) (a' := ?_) #[true, true, true, true, true, true, true, true, true, true, true, true, true, true, true, true, true, true, true, true, true, false, false, false, false, false] rfl rfl (any_of HT_.out (by kernel_rfl)) (fun _ _ _ h => h) (Or.inl ⟨by rfl, ?_⟩) ?_ ?_
            rotate_left
            ·intro w'
             go_simp
             with_reducible rfl
            rotate_left
            ·simp only [Act.put, List.setIfInBounds_toArray, List.set_cons_zero, List.set_cons_succ, i64_w, i32_w]
             rfl
            refine pure_ (i := 21) (N := some 85) (v := ?_) (a' := ?_) #[true, true, true, true, true, true, true, true, true, true, true, true, true, true, true, true, true, true, true, true, true, true, false, false, false, false] rfl rfl (any_of HT_.out (by kernel_rfl)) (fun _ _ _ h => h) (Or.inl ⟨by rfl, ?_⟩) ?_ ?_
            rotate_left
            ·intro w'
             go_simp
             with_reducible rfl
            rotate_left
            ·simp only [Act.put, List.setIfInBounds_toArray, List.set_cons_zero, List.set_cons_succ, i64_w, i32_w]
             rfl
            (refine one_ (i := 22) (N := some 86) #[true, true, true, true, true, true, true, true, true, true, true, true, true, true, true, true, true, true, true, true, true, true, true, false, false, false] rfl rfl (one_of HT_.out (by kernel_rfl)) (by decide) (fun K hK => ?_));(refine value_ (w1 := ?_) (v := ?_) (by rfl) rfl ?_ ?_)
            rotate_left 2
            ·go_simp
             constructor
             ·rfl
             ·rfl
            (refine hK.out _ _ ⟨(blk_cell (blk_alloc BK141.out _) 0).trans rfl, (blk_cell (blk_alloc BK141.out _) 1).trans rfl, (blk_cell (blk_alloc BK141.out _) 2).trans rfl, (blk_cell (blk_alloc BK141.out _) 3).trans rfl, (World.cell?_alloc_lt _ _ _ (World.block_lt_of_cell? _ _ (((HB.out.cell (World.block_lt_of_cell? w _ hw157_0)).trans hw157_0)))).trans (((HB.out.cell (World.block_lt_of_cell? w _ hw157_0)).trans hw157_0)), (World.cell?_alloc_lt _ _ _ (World.block_lt_of_cell? _ _ (((HB.out.cell (World.block_lt_of_cell? w _ hw157_1)).trans hw157_1)))).trans (((HB.out.cell (World.block_lt_of_cell? w _ hw157_1)).trans hw157_1)), (World.cell?_alloc_lt _ _ _ (World.block_lt_of_cell? _ _ (((HB.out.cell (World.block_lt_of_cell? w _ hw157_2)).trans hw157_2)))).trans (((HB.out.cell (World.block_lt_of_cell? w _ hw157_2)).trans hw157_2)), (World.cell?_alloc_lt _ _ _ (World.block_lt_of_cell? _ _ (((HB.out.cell (World.block_lt_of_cell? w _ hw159_0)).trans hw159_0)))).trans (((HB.out.cell (World.block_lt_of_cell? w _ hw159_0)).trans hw159_0)), (World.cell?_alloc_lt _ _ _ (World.block_lt_of_cell? _ _ (((HB.out.cell (World.block_lt_of_cell? w _ hw159_1)).trans hw159_1)))).trans (((HB.out.cell (World.block_lt_of_cell? w _ hw159_1)).trans hw159_1)), (World.cell?_alloc_lt _ _ _ (World.block_lt_of_cell? _ _ (((HB.out.cell (World.block_lt_of_cell? w _ hw159_2)).trans hw159_2)))).trans (((HB.out.cell (World.block_lt_of_cell? w _ hw159_2)).trans hw159_2))⟩ (fun hHeld => ?_));(clear hK K);(refine norm_ (a' := ?_) ?_ ?_)
            rotate_left
            ·show Act.put _ (some 86) _ = _
             simp only [Act.put, List.setIfInBounds_toArray, List.set_cons_zero, List.set_cons_succ, i64_w, i32_w]
             rfl
            (refine one_ (i := 23) (N := some 87) #[true, true, true, true, true, true, true, true, true, true, true, true, true, true, true, true, true, true, true, true, true, true, true, true, false, false] rfl rfl (one_of HT_.out (by kernel_rfl)) (by decide) (fun K hK => ?_));(refine Kd.R_append_step k30 (w0 := w) w.heap.size (by rfl) (.tmp 65) (.tmp 86) 24 30 (.agg #[(.int .i64 0), (.int .i64 0), (.int .i64 0)]) 24 rfl Try.underlying24 info30 rfl (by decide) (by omega) u142003 x142003_1 (⟨wrap64 (1 + t158), wrap64 (1 + t160), t145⟩ : S30) [.int .i64 (wrap64 (1 + t158)), .int .i64 (wrap64 (1 + t160)), .int .i64 t145] (fun _ => True) (fun _ => False) rfl rfl ?aP (fun _ hk => hk.elim) ?aF ?aO ?aB ?aS ?aL ?_)
            (case aP => exact k30_mkM _ _ _ (⟨wrap64 (1 + t158), wrap64 (1 + t160), t145⟩ : S30))
            (case aB => exact (by repeat (first | (with_reducible first | exact HB.out | apply below_alloc | apply pw_below_drewN | apply below_drew1 | refine below_set ?_ GE139.out | refine below_set ?_ GE141.out) | exact HB.out)))
            (case aF => exact (fun _ _ => trivial))
            (case aO => exact (by (with_reducible repeat first | apply Kd.R_alloc | apply Kd.R_drewN | apply Kd.R_drew); exact HO_142003.out))
            (case aS => exact (below_size (by repeat (first | (with_reducible first | exact HB.out | apply below_alloc | apply pw_below_drewN | apply below_drew1 | refine below_set ?_ GE139.out | refine below_set ?_ GE141.out) | exact HB.out))))
            (case aL => have := LMc33.out; omega)
            (intro v162 w35 ho hb hg hat);(rw [← Ny161.out] at ho);(have n0_ := Aside0.mk (blk_grown (g := gb139) (o := .cells #[.int .i64 0, .int .i64 0, .int .i64 0, .slice none 0 0] 26 (0, 0)) (by (with_reducible repeat first | refine blk_drewN ?_ _ | refine blk_drew ?_ | refine blk_alloc ?_ _); exact BK139.out) hg (Kd.R_ne HO_142003.out BK139.out (by decide))));(have n1_ := Aside0.mk (blk_grown (g := gb141) (o := .cells #[.int .i64 (wrap64 (2 + t140)), .int .i64 (wrap64 (1 + t142)), .int .i64 (wrap64 (1 + (Int.tmod (wrap64 ((wrap64 (1 + t142)) + t143)) (wrap64 (2 + t140))))), u142003] 26 (0, 0)) (by (with_reducible repeat first | refine blk_drewN ?_ _ | refine blk_drew ?_ | refine blk_alloc ?_ _); exact BK141.out) hg (Kd.R_ne HO_142003.out BK141.out (by decide))));(have n2_ := Aside0.mk (hb));(have n3_ := Aside0.mk (ho));(clear BK139);(clear BK141);(clear HB);(clear HO_142003);(have BK139 := n0_);(have BK141 := n1_);(have HB := n2_);(have HO163 := n3_);(clear n0_ n1_ n2_ n3_);(clear ho hb hg hat);(obtain ⟨Ao36, co36, eo36⟩ := Kd.R_slice HO163.out);((first | subst eo36 | (injection eo36 with f1_ f2_ f3_; have f4_ := f1_.symm; have f5_ := f3_.symm; clear f1_ f2_ f3_; subst f4_; subst f5_)));(refine hK.out _ _ ⟨(blk_cell BK141.out 0).trans rfl, (blk_cell BK141.out 1).trans rfl, (blk_cell BK141.out 2).trans rfl, (blk_cell BK141.out 3).trans rfl, ((HB.out.cell (World.block_lt_of_cell? w _ hw157_0)).trans hw157_0), ((HB.out.cell (World.block_lt_of_cell? w _ hw157_1)).trans hw157_1), ((HB.out.cell (World.block_lt_of_cell? w _ hw157_2)).trans hw157_2), ((HB.out.cell (World.block_lt_of_cell? w _ hw159_0)).trans hw159_0), ((HB.out.cell (World.block_lt_of_cell? w _ hw159_1)).trans hw159_1), ((HB.out.cell (World.block_lt_of_cell? w _ hw159_2)).trans hw159_2)⟩ (fun hHeld => ?_));(clear hK K);(refine norm_ (a' := ?_) ?_ ?_)
            rotate_left
            ·show Act.put _ (some 87) _ = _
             simp only [Act.put, List.setIfInBounds_toArray, List.set_cons_zero, List.set_cons_succ, i64_w, i32_w]
             rfl
            refine pure_ (i := 24) (N := some 88) (v := ?_) (a' := ?_) #[true, true, true, true, true, true, true, true, true, true, true, true, true, true, true, true, true, true, true, true, true, true, true, true, true, false] rfl rfl (any_of HT_.out (by kernel_rfl)) (fun _ _ _ h => h) (Or.inl ⟨by rfl, ?_⟩) ?_ ?_
            rotate_left
            ·intro w'
             go_simp
             with_reducible rfl
            rotate_left
            ·simp only [Act.put, List.setIfInBounds_toArray, List.set_cons_zero, List.set_cons_succ, i64_w, i32_w]
             rfl
            (refine last_ (i := 25) (N := none) #[true, true, true, true, true, true, true, true, true, true, true, true, true, true, true, true, true, true, true, true, true, true, true, true, true, true] rfl rfl (one_of HT_.out (by kernel_rfl)) (by decide) (fun K hK => ?_));(have hs37 : w35.cell? ⟨gb141, 3, none⟩ = some (u142003) := (blk_cell BK141.out 3).trans rfl);(have hfs37 := blk_frozen BK141.out 3);(have hns37_0 := NB139_141.out);(have hms37_0 := NB141_139.out);(refine skip_ (w1 := ?_) (by rfl) rfl ?_ ?_)
            rotate_left
            ·go_simp
             rfl
            (refine hK.out _ _ ?_);(clear hK K);(refine done_ (done_of HT_.out (by kernel_rfl)) ?_)
            try go_wp2
            go_roundg kj14
            case measure => have := HK1.out; have := HJ14.out; omega
            case rel => exact ⟨(wrap64 (x8_1 + 1)), (y161), (.slice Ao36 y161.length co36), (by first | rfl | (simp; done) | (simp [*]; done)), H', ⟨by have := HK1.out; have := HJ14.out; omega⟩, ⟨by (with_reducible repeat first | apply Kd.R_alloc | apply Kd.R_drewN | apply Kd.R_drew); exact Kd.R_mono (Kd.R_far (p := ⟨gb141, 3, none⟩) (Kd.R_types HO163.out BK141.out (by decide)) (fun _ hk => hk.2) (.slice Ao36 y161.length co36)) (fun _ hk => trivial)⟩, ⟨by (with_reducible repeat first | refine blk_drewN ?_ _ | refine blk_drew ?_ | refine blk_alloc ?_ _); refine blk_far ?_ NB139_141.out _; (with_reducible repeat first | refine blk_drewN ?_ _ | refine blk_drew ?_ | refine blk_alloc ?_ _); exact BK139.out⟩, ⟨by (with_reducible repeat first | refine blk_drewN ?_ _ | refine blk_drew ?_ | refine blk_alloc ?_ _); refine blk_put (cs := #[.int .i64 (wrap64 (2 + t140)), .int .i64 (wrap64 (1 + t142)), .int .i64 (wrap64 (1 + (Int.tmod (wrap64 ((wrap64 (1 + t142)) + t143)) (wrap64 (2 + t140))))), u142003]) ?_ 3 _ rfl; (with_reducible repeat first | refine blk_drewN ?_ _ | refine blk_drew ?_ | refine blk_alloc ?_ _); exact BK141.out⟩, ⟨by repeat (first | (with_reducible first | exact HB.out | apply below_alloc | apply pw_below_drewN | apply below_drew1 | refine below_set ?_ GE139.out | refine below_set ?_ GE141.out) | exact HB.out)⟩⟩
          ·(rw [if_neg c33] at H);(exact absurd H (by simp))
        ·(rw [if_neg c19] at H);(exact absurd H (by simp))
       ·(rw [if_neg c18] at H);(exact absurd H (by simp))
      ·(replace c17 := Bool.eq_false_iff.mpr c17);(subst c17);(have H1 : (some ((wrap64 (2 + t140)), (wrap64 (1 + t142)), (wrap64 (1 + (Int.tmod (wrap64 ((wrap64 (1 + t142)) + t143)) (wrap64 (2 + t140))))), x142003_1)) = some (r1, r2, r3, r4) := by rw [if_neg (show ¬ (false = true) by decide)] at H; exact H);(clear H);(have H := H1);(clear H1)
       as_aux_lemma =>
        (simp only [Option.some.injEq, Prod.mk.injEq] at H);(obtain ⟨rfl, rfl, rfl, rfl⟩ := H);(have hnb38 := NB141_139.out);(have hnc38 := NB139_141.out);(have hcz39_0 : wc.cell? ⟨gb141, 0, none⟩ = some (.int .i64 (wrap64 (2 + t140))) := (blk_cell BK141.out 0).trans rfl);(have hcz39_1 : wc.cell? ⟨gb141, 1, none⟩ = some (.int .i64 (wrap64 (1 + t142))) := (blk_cell BK141.out 1).trans rfl);(have hcz39_2 : wc.cell? ⟨gb141, 2, none⟩ = some (.int .i64 (wrap64 (1 + (Int.tmod (wrap64 ((wrap64 (1 + t142)) + t143)) (wrap64 (2 + t140)))))) := (blk_cell BK141.out 2).trans rfl);(have hcz39_3 : wc.cell? ⟨gb141, 3, none⟩ = some (u142003) := (blk_cell BK141.out 3).trans rfl);(have hfz39_0 := blk_frozen BK141.out 0);(have hfz39_1 := blk_frozen BK141.out 1);(have hfz39_2 := blk_frozen BK141.out 2);(have hfz39_3 := blk_frozen BK141.out 3);(have hcz40_0 : wc.cell? ⟨gb139, 0, none⟩ = some (.int .i64 0) := (blk_cell BK139.out 0).trans rfl);(have hcz40_1 : wc.cell? ⟨gb139, 1, none⟩ = some (.int .i64 0) := (blk_cell BK139.out 1).trans rfl);(have hcz40_2 : wc.cell? ⟨gb139, 2, none⟩ = some (.int .i64 0) := (blk_cell BK139.out 2).trans rfl);(have hcz40_3 : wc.cell? ⟨gb139, 3, none⟩ = some (.slice none 0 0) := (blk_cell BK139.out 3).trans rfl);(have hfz40_0 := blk_frozen BK139.out 0);(have hfz40_1 := blk_frozen BK139.out 1);(have hfz40_2 := blk_frozen BK139.out 2);(have hfz40_3 := blk_frozen BK139.out 3);(obtain ⟨Ao41, co41, eo41⟩ := Kd.R_slice HO_142003.out);(subst eo41)
        go_wp2
        (refine bodyPost_ret (results_cell_row rfl _ _ gb139 26 #[.int .i64 (wrap64 (2 + t140)), .int .i64 (wrap64 (1 + t142)), .int .i64 (wrap64 (1 + (Int.tmod (wrap64 ((wrap64 (1 + t142)) + t143)) (wrap64 (2 + t140))))), .slice Ao41 x142003_1.length co41] (0, 0) _ rfl (by (with_reducible repeat first | refine blk_drewN ?_ _ | refine blk_drew ?_ | refine blk_alloc ?_ _); refine blk_put (cs := #[.int .i64 (wrap64 (2 + t140)), .int .i64 (wrap64 (1 + t142)), .int .i64 (wrap64 (1 + (Int.tmod (wrap64 ((wrap64 (1 + t142)) + t143)) (wrap64 (2 + t140))))), .slice none 0 0]) ?_ 3 _ rfl; (with_reducible repeat first | refine blk_drewN ?_ _ | refine blk_drew ?_ | refine blk_alloc ?_ _); refine blk_put (cs := #[.int .i64 (wrap64 (2 + t140)), .int .i64 (wrap64 (1 + t142)), .int .i64 0, .slice none 0 0]) ?_ 2 _ rfl; (with_reducible repeat first | refine blk_drewN ?_ _ | refine blk_drew ?_ | refine blk_alloc ?_ _); refine blk_put (cs := #[.int .i64 (wrap64 (2 + t140)), .int .i64 0, .int .i64 0, .slice none 0 0]) ?_ 1 _ rfl; (with_reducible repeat first | refine blk_drewN ?_ _ | refine blk_drew ?_ | refine blk_alloc ?_ _); refine blk_put (cs := #[.int .i64 0, .int .i64 0, .int .i64 0, .slice none 0 0]) ?_ 0 _ rfl; (with_reducible repeat first | refine blk_drewN ?_ _ | refine blk_drew ?_ | refine blk_alloc ?_ _); exact BK139.out) Try.underlying26 rfl (by kernel_rfl)) rfl ?_);(exact ⟨_, by first | rfl | (simp [errW_none, errW_some] <;> rfl) | (simp [*, errW_none, errW_some] <;> rfl), by (with_reducible repeat first | apply Kd.R_alloc | apply Kd.R_drewN | apply Kd.R_drew); exact Kd.R_mono (Kd.R_far (p := ⟨gb139, 3, none⟩) (Kd.R_far (p := ⟨gb139, 2, none⟩) (Kd.R_far (p := ⟨gb139, 1, none⟩) (Kd.R_far (p := ⟨gb139, 0, none⟩) (Kd.R_types HO_142003.out BK139.out (by decide)) (fun _ hk => hk.2) (.int .i64 (wrap64 (2 + t140)))) (fun _ hk => hk.2) (.int .i64 (wrap64 (1 + t142)))) (fun _ hk => hk.2) (.int .i64 (wrap64 (1 + (Int.tmod (wrap64 ((wrap64 (1 + t142)) + t143)) (wrap64 (2 + t140))))))) (fun _ hk => hk.2) (.slice Ao41 x142003_1.length co41)) (fun _ hk => trivial), by repeat (first | (with_reducible first | exact HB.out | apply below_alloc | apply pw_below_drewN | apply below_drew1 | refine below_set ?_ GE139.out | refine below_set ?_ GE141.out) | exact HB.out)⟩)
end Go.Proofs.Ytnjdjnoncoeffaa.PDecompTwice
