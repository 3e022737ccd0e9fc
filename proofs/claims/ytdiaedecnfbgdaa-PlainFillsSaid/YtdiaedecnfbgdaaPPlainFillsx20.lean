/- For the law PlainFills, for every input: printed by a program (wip/myprint), contracts by hand where it says MANUAL. -/
-- slim
import Derived.Test.YtdiaedecnfbgdaaPPlainFillsx0
import Derived.Test.YtdiaedecnfbgdaaPPlainFillsx19
namespace Go.Proofs.Ytdiaedecnfbgdaa.PPlainFills
open Go.RowKit Go.Proofs.YtdiaedecnfbgdaaW.PrintWords Go.Proofs.YtdiaedecnfbgdaaW.PrintLast Go.Proofs.YtdiaedecnfbgdaaW.PrintMore
attribute [local go_sem] max2_int min2_int max_two min_two max_three min_three max_four min_four
set_option linter.unusedVariables false
set_option linter.unusedSimpArgs false
/-! ### racewaylaw8_made: function 25 -/
mutual
def racewaylaw8_made.l0 : Nat → List (S91) → Int → Int → Int → Int → List (S30) → Option (Int × Int × Int × (List (S30)))
 | 0, _, _, _, _, _, _ => none
 | k + 1, x2, x8, x164000, x164001, x164002, x164003 => if x8 < (x2.length : Int) then (racewaylaw8_made.j1 k x2 x8 (decide (x8 < 24)) x164000 x164001 x164002 x164003) else (racewaylaw8_made.j1 k x2 x8 false x164000 x164001 x164002 x164003)
def racewaylaw8_made.j1 : Nat → List (S91) → Int → Bool → Int → Int → Int → List (S30) → Option (Int × Int × Int × (List (S30)))
 | 0, _, _, _, _, _, _, _ => none
 | k + 1, x2, x8, x41, x164000, x164001, x164002, x164003 => if x41 = true then (if 0 ≤ x8 then (if x8 < (x2.length : Int) then ((racewaylaw8_pick.f ((rd_T91 x2 x8).f2) 21).bind fun t167 => ((racewaylaw8_pick.f (wrap64 (Int.tdiv ((rd_T91 x2 x8).f2) 21)) 9).bind fun t169 => (if t169 = 0 then ((racewaylaw8_pick.f ((rd_T91 x2 x8).f2) 1000000).bind fun t171 => ((racewaylaw8_pick.f ((rd_T91 x2 x8).f0) x164000).bind fun t173 => ((racewaylaw8_pick.f ((rd_T91 x2 x8).f1) x164000).bind fun t175 => (if x164003.length < 5864062014805 then (racewaylaw8_made.l0 k x2 (wrap64 (x8 + 1)) x164000 x164001 x164002 (x164003 ++ [(⟨wrap64 (1 + t173), wrap64 (1 + t175), t171⟩ : S30)])) else (none))))) else ((racewaylaw8_pick.f ((rd_T91 x2 x8).f0) x164000).bind fun t180 => ((racewaylaw8_pick.f ((rd_T91 x2 x8).f1) x164000).bind fun t182 => (if x164003.length < 5864062014805 then (racewaylaw8_made.l0 k x2 (wrap64 (x8 + 1)) x164000 x164001 x164002 (x164003 ++ [(⟨wrap64 (1 + t180), wrap64 (1 + t182), t167⟩ : S30)])) else (none))))))) else (none)) else (none)) else (some (x164000, x164001, x164002, x164003))
end
def racewaylaw8_made.f (k : Nat) (a0 : Int) (a1 : Int) (l2 : List (S91)) : Option (Int × Int × Int × (List (S30))) := (racewaylaw8_pick.f a0 8).bind fun t162 => ((racewaylaw8_pick.f a1 (wrap64 (2 + t162))).bind fun t164 => ((racewaylaw8_pick.f (wrap64 (Int.tdiv a1 16)) (wrap64 ((wrap64 (2 + t162)) - 1))).bind fun t165 => (if (wrap64 (2 + t162)) = 0 then (none) else (racewaylaw8_made.l0 k l2 0 (wrap64 (2 + t162)) (wrap64 (1 + t164)) (wrap64 (1 + (Int.tmod (wrap64 ((wrap64 (1 + t164)) + t165)) (wrap64 (2 + t162))))) ([] : List (S30))))))
theorem racewaylaw8_made.mono_l : ∀ k, (∀ y0 y1 y2 y3 y4 y5, LeO (racewaylaw8_made.l0 k y0 y1 y2 y3 y4 y5) (racewaylaw8_made.l0 (k + 1) y0 y1 y2 y3 y4 y5)) ∧ (∀ y0 y1 y2 y3 y4 y5 y6, LeO (racewaylaw8_made.j1 k y0 y1 y2 y3 y4 y5 y6) (racewaylaw8_made.j1 (k + 1) y0 y1 y2 y3 y4 y5 y6))
 | 0 => ⟨fun _ _ _ _ _ _ r h => by simp [racewaylaw8_made.l0] at h, fun _ _ _ _ _ _ _ r h => by simp [racewaylaw8_made.j1] at h⟩
 | k + 1 => by
  obtain ⟨ih0, ih1⟩ := racewaylaw8_made.mono_l k
  refine ⟨?_, ?_⟩
  ·intro y0 y1 y2 y3 y4 y5
   unfold racewaylaw8_made.l0
   repeat' first
   | (with_reducible exact ih0 _ _ _ _ _ _)
   | (with_reducible exact ih1 _ _ _ _ _ _ _)
   | (with_reducible exact LeO.refl _)
   | (with_reducible exact LeO.none _)
   | (with_reducible refine LeO.ite ?_ ?_)
   | (with_reducible refine LeO.bind ?_ (fun _ => ?_))
   | exact ih0 _ _ _ _ _ _
   | exact ih1 _ _ _ _ _ _ _
   | exact LeO.none _
   | refine LeO.ite ?_ ?_
   | refine LeO.bind ?_ (fun _ => ?_)
  ·intro y0 y1 y2 y3 y4 y5 y6
   unfold racewaylaw8_made.j1
   repeat' first
   | (with_reducible exact ih0 _ _ _ _ _ _)
   | (with_reducible exact ih1 _ _ _ _ _ _ _)
   | (with_reducible exact LeO.refl _)
   | (with_reducible exact LeO.none _)
   | (with_reducible refine LeO.ite ?_ ?_)
   | (with_reducible refine LeO.bind ?_ (fun _ => ?_))
   | exact ih0 _ _ _ _ _ _
   | exact ih1 _ _ _ _ _ _ _
   | exact LeO.none _
   | refine LeO.ite ?_ ?_
   | refine LeO.bind ?_ (fun _ => ?_)
theorem racewaylaw8_made.mono : ∀ a0 a1 a2 k, LeO (racewaylaw8_made.f k a0 a1 a2) (racewaylaw8_made.f (k + 1) a0 a1 a2) := by
 intro a0 a1 a2 k
 obtain ⟨ih0, ih1⟩ := racewaylaw8_made.mono_l k
 unfold racewaylaw8_made.f
 repeat' first
   | (with_reducible exact ih0 _ _ _ _ _ _)
   | (with_reducible exact ih1 _ _ _ _ _ _ _)
   | (with_reducible exact LeO.refl _)
   | (with_reducible exact LeO.none _)
   | (with_reducible refine LeO.ite ?_ ?_)
   | (with_reducible refine LeO.bind ?_ (fun _ => ?_))
   | exact ih0 _ _ _ _ _ _
   | exact ih1 _ _ _ _ _ _ _
   | exact LeO.none _
   | refine LeO.ite ?_ ?_
   | refine LeO.bind ?_ (fun _ => ?_)
def racewaylaw8_made.T3 : Bool × List (List Nat × List Nat) := (true, [([], []), ([0], [0]), ([], []), ([2], [2]), ([], []), ([4], [4]), ([5], [5]), ([3, 6], [3, 6]), ([1, 7], [1, 7]), ([], []), ([9], [9]), ([8, 10], [8, 10]), ([11], [11]), ([0, 1, 2, 3, 4, 5, 6, 7, 8, 9, 10, 11, 12], []), ([13, 12, 7, 0, 1, 2, 3, 4, 5, 6, 7, 8, 9, 10, 11, 12], [12, 13])])
def racewaylaw8_made.B3 : List Nat := [0, 1, 0, 4, 0, 16, 48, 124, 255, 0, 512, 2047, 4095, 8191, 16383]
theorem racewaylaw8_made.tab3 : rtab .any (opsOf Try.f25 3) = racewaylaw8_made.T3 := by kernel_rfl
theorem racewaylaw8_made.bits3 : waitsOk racewaylaw8_made.T3.2 racewaylaw8_made.B3 = true := by kernel_rfl
def racewaylaw8_made.T10 : Bool × List (List Nat × List Nat) := (true, [([], []), ([0], [0]), ([], []), ([], []), ([2, 3], [2, 3]), ([4], [4]), ([5], [5]), ([], []), ([7], [7]), ([6, 8], [6, 8]), ([9], [9]), ([], []), ([], []), ([11, 12], [11, 12]), ([13], [13]), ([14], [14]), ([], []), ([16], [16]), ([15, 17, 9], [15, 17]), ([18], [18]), ([], []), ([10, 19, 20], [10, 19, 20]), ([21], [21]), ([1, 22, 18], [1, 22]), ([0, 1, 2, 3, 4, 5, 6, 7, 8, 9, 10, 11, 12, 13, 14, 15, 16, 17, 18, 19, 20, 21, 22, 23], []), ([24, 23, 23, 0, 1, 2, 3, 4, 5, 6, 7, 8, 9, 10, 11, 12, 13, 14, 15, 16, 17, 18, 19, 20, 21, 22, 23], [23, 24])])
def racewaylaw8_made.B10 : List Nat := [0, 1, 0, 0, 12, 28, 60, 0, 128, 508, 1020, 0, 0, 6144, 14336, 30720, 0, 65536, 261116, 523260, 0, 2097148, 4194300, 8388607, 16777215, 33554431]
theorem racewaylaw8_made.tab10 : rtab .any (opsOf Try.f25 10) = racewaylaw8_made.T10 := by kernel_rfl
theorem racewaylaw8_made.bits10 : waitsOk racewaylaw8_made.T10.2 racewaylaw8_made.B10 = true := by kernel_rfl
set_option maxHeartbeats 8000000 in
set_option maxRecDepth 100000 in
theorem racewaylaw8_made.calls (k : Nat) (a0 : Int) (a1 : Int) (A2 : Option Addr) (c2 : Nat) (l2 : List (S91)) (r1 : Int) (r2 : Int) (r3 : Int) (r4 : List (S30)) (w : World) (hr2 : Kd.C k91 w A2 l2.length l2) (hc2 : l2.length ≤ c2) (h : racewaylaw8_made.f k a0 a1 l2 = some (r1, r2, r3, r4)) :
  Calls Try.prog 25 #[.int .i64 a0, .int .i64 a1, .slice A2 l2.length c2] w fun e w' => ∃ v3_ : Value, e = .returned (.agg #[.int .i64 r1, .int .i64 r2, .int .i64 r3, v3_]) ∧ Kd.R k30 30 w' w.heap.size (fun _ => True) v3_ r4 ∧ Below w.heap.size w w' := by
 have hu26 := Try.underlying26
 have hu30 := Try.underlying30
 have HR2 := Aside0.mk hr2
 have HC2 := Aside0.mk hc2
 clear hr2 hc2
 have HB := Aside0.mk (Below.refl w.heap.size w)
 have H : ((racewaylaw8_pick.f a0 8).bind fun t162 => ((racewaylaw8_pick.f a1 (wrap64 (2 + t162))).bind fun t164 => ((racewaylaw8_pick.f (wrap64 (Int.tdiv a1 16)) (wrap64 ((wrap64 (2 + t162)) - 1))).bind fun t165 => (if (wrap64 (2 + t162)) = 0 then (none) else (racewaylaw8_made.l0 k l2 0 (wrap64 (2 + t162)) (wrap64 (1 + t164)) (wrap64 (1 + (Int.tmod (wrap64 ((wrap64 (1 + t164)) + t165)) (wrap64 (2 + t162))))) ([] : List (S30))))))) = some (r1, r2, r3, r4) := h
 clear h
 replace H := Option.bind_eq_some_iff.mp H
 obtain ⟨t162, A40, H⟩ := H
 replace H : ((racewaylaw8_pick.f a1 (wrap64 (2 + t162))).bind fun t164 => ((racewaylaw8_pick.f (wrap64 (Int.tdiv a1 16)) (wrap64 ((wrap64 (2 + t162)) - 1))).bind fun t165 => (if (wrap64 (2 + t162)) = 0 then (none) else (racewaylaw8_made.l0 k l2 0 (wrap64 (2 + t162)) (wrap64 (1 + t164)) (wrap64 (1 + (Int.tmod (wrap64 ((wrap64 (1 + t164)) + t165)) (wrap64 (2 + t162))))) ([] : List (S30)))))) = some (r1, r2, r3, r4) := H
 have A4 := Aside0.mk A40
 clear A40
 replace H := Option.bind_eq_some_iff.mp H
 obtain ⟨t164, A50, H⟩ := H
 replace H : ((racewaylaw8_pick.f (wrap64 (Int.tdiv a1 16)) (wrap64 ((wrap64 (2 + t162)) - 1))).bind fun t165 => (if (wrap64 (2 + t162)) = 0 then (none) else (racewaylaw8_made.l0 k l2 0 (wrap64 (2 + t162)) (wrap64 (1 + t164)) (wrap64 (1 + (Int.tmod (wrap64 ((wrap64 (1 + t164)) + t165)) (wrap64 (2 + t162))))) ([] : List (S30))))) = some (r1, r2, r3, r4) := H
 have A5 := Aside0.mk A50
 clear A50
 replace H := Option.bind_eq_some_iff.mp H
 obtain ⟨t165, A60, H⟩ := H
 replace H : (if (wrap64 (2 + t162)) = 0 then (none) else (racewaylaw8_made.l0 k l2 0 (wrap64 (2 + t162)) (wrap64 (1 + t164)) (wrap64 (1 + (Int.tmod (wrap64 ((wrap64 (1 + t164)) + t165)) (wrap64 (2 + t162))))) ([] : List (S30)))) = some (r1, r2, r3, r4) := H
 have A6 := Aside0.mk A60
 clear A60
 by_cases c7 : (wrap64 (2 + t162)) = 0
 ·rw [if_pos c7] at H
  exact absurd H (by simp)
 ·rw [if_neg c7] at H
  have c7b0 : ((wrap64 (2 + t162)) == 0) = false := beq_eq_false_iff_ne.mpr c7
  have c7b1 : ((wrap64 (2 + t162)) != 0) = true := bne_iff_ne.mpr c7
  have H' := Aside0.mk H
  clear H
  go_enter Try.func25, Try.ntmps25
  try go_wp2_with (first | ((with_reducible refine gate_dst (N := 6) rfl ?_); refine box_event ?hg (N := 6) ?hd (cs := #[.int .i64 0, .int .i64 0, .int .i64 0, .slice none 0 0]) (t := 26) ?hr ?_; (case hd => rfl); (case hg => rfl); (case hr => first | (go_simp; done) | (go_simp; rfl)); intro gb161 hg w8 hbox hb; have n0_ := Aside0.mk (below_step (by repeat (first | (with_reducible first | exact HB.out | apply below_alloc | apply pw_below_drewN | apply below_drew1) | exact HB.out)) hb); have n1_ := Aside0.mk (hbox); have n2_ := Aside0.mk ((by rw [hg]; exact (below_size (by repeat (first | (with_reducible first | exact HB.out | apply below_alloc | apply pw_below_drewN | apply below_drew1) | exact HB.out))) : w.heap.size ≤ gb161)); have n3_ := Aside0.mk ((by rw [hg]; exact (below_size (by repeat (first | (with_reducible first | exact HB.out | apply below_alloc | apply pw_below_drewN | apply below_drew1) | exact HB.out))) : w.heap.size ≤ gb161)); clear HB; have HB := n0_; have BK161 := n1_; have GW161 := n2_; have GE161 := n3_; clear n0_ n1_ n2_ n3_; clear hb hbox hg) | ((with_reducible refine gate_callee (f := 27) rfl ?_); refine goesL_ (some 11) rfl rfl Try.func27 (by kernel_rfl) rfl #[.int .i64 a0, .int .i64 8] rfl (by (try simp only [List.map_toArray, List.map_cons, List.map_nil]); first | done | rfl | (simp only [List.length_drop, List.length_take]; rfl)) ?_; (with_reducible refine (racewaylaw8_pick.calls a0 8 t162 _ A4.out).mono ?_); rintro e w' ⟨rfl, ⟨nd, rfl⟩⟩; refine ⟨_, rfl, ?_⟩; (try (rw [drewN_self w8]; generalize hq_ : World.drewN w8 _ = w8; have n0_ : Aside0 (w8.heap[gb161]? = some (.cells #[.int .i64 0, .int .i64 0, .int .i64 0, .slice none 0 0] 26 (0, 0))) := ⟨by rw [← hq_]; exact (by (with_reducible repeat first | refine blk_drewN ?_ _ | refine blk_drew ?_ | refine blk_alloc ?_ _); exact BK161.out)⟩; have n1_ : Aside0 (Below w.heap.size w w8) := ⟨by rw [← hq_]; exact (by repeat (first | (with_reducible first | exact HB.out | apply below_alloc | apply pw_below_drewN | apply below_drew1 | refine below_set ?_ GE161.out) | exact HB.out))⟩; clear BK161 HB hq_; have BK161 := n0_; have HB := n1_; clear n0_ n1_; have hcqBK161_0 : w8.cell? ⟨gb161, 0, none⟩ = some (.int .i64 0) := (blk_cell BK161.out 0).trans rfl; have hfqBK161_0 := blk_frozen BK161.out 0; have hcqBK161_1 : w8.cell? ⟨gb161, 1, none⟩ = some (.int .i64 0) := (blk_cell BK161.out 1).trans rfl; have hfqBK161_1 := blk_frozen BK161.out 1; have hcqBK161_2 : w8.cell? ⟨gb161, 2, none⟩ = some (.int .i64 0) := (blk_cell BK161.out 2).trans rfl; have hfqBK161_2 := blk_frozen BK161.out 2; have hcqBK161_3 : w8.cell? ⟨gb161, 3, none⟩ = some (.slice none 0 0) := (blk_cell BK161.out 3).trans rfl; have hfqBK161_3 := blk_frozen BK161.out 3))) | ((with_reducible refine gate_dst (N := 7) rfl ?_); refine box_event ?hg (N := 7) ?hd (cs := #[.int .i64 0, .int .i64 0, .int .i64 0, .slice none 0 0]) (t := 26) ?hr ?_; (case hd => rfl); (case hg => rfl); (case hr => first | (go_simp; done) | (go_simp; rfl)); intro gb163 hg w9 hbox hb; have n0_ := Aside0.mk (blk_below (g := gb161) (o := .cells #[.int .i64 0, .int .i64 0, .int .i64 0, .slice none 0 0] 26 (0, 0)) (by (with_reducible repeat first | refine blk_drewN ?_ _ | refine blk_drew ?_ | refine blk_alloc ?_ _); exact BK161.out) hb); have n1_ := Aside0.mk (below_step (by repeat (first | (with_reducible first | exact HB.out | apply below_alloc | apply pw_below_drewN | apply below_drew1 | refine below_set ?_ GE161.out) | exact HB.out)) hb); have n2_ := Aside0.mk (hbox); have n3_ := Aside0.mk ((by rw [hg]; exact (below_size (by repeat (first | (with_reducible first | exact HB.out | apply below_alloc | apply pw_below_drewN | apply below_drew1 | refine below_set ?_ GE161.out) | exact HB.out))) : w.heap.size ≤ gb163)); have n4_ := Aside0.mk ((by rw [hg]; exact (below_size (by repeat (first | (with_reducible first | exact HB.out | apply below_alloc | apply pw_below_drewN | apply below_drew1 | refine below_set ?_ GE161.out) | exact HB.out))) : w.heap.size ≤ gb163)); have n5_ := Aside0.mk ((by rw [hg]; exact Nat.ne_of_lt (blk_lt (g := gb161) (o := .cells #[.int .i64 0, .int .i64 0, .int .i64 0, .slice none 0 0] 26 (0, 0)) (by (with_reducible repeat first | refine blk_drewN ?_ _ | refine blk_drew ?_ | refine blk_alloc ?_ _); exact BK161.out)) : gb161 ≠ gb163)); have n6_ := Aside0.mk ((by rw [hg]; exact Nat.ne_of_gt (blk_lt (g := gb161) (o := .cells #[.int .i64 0, .int .i64 0, .int .i64 0, .slice none 0 0] 26 (0, 0)) (by (with_reducible repeat first | refine blk_drewN ?_ _ | refine blk_drew ?_ | refine blk_alloc ?_ _); exact BK161.out)) : gb163 ≠ gb161)); clear BK161; clear HB; have BK161 := n0_; have HB := n1_; have BK163 := n2_; have GW163 := n3_; have GE163 := n4_; have NB161_163 := n5_; have NB163_161 := n6_; clear n0_ n1_ n2_ n3_ n4_ n5_ n6_; clear hb hbox hg; have hnb10 := NB163_161.out; have hnc10 := NB161_163.out; have hcz11_0 : w9.cell? ⟨gb163, 0, none⟩ = some (.int .i64 0) := (blk_cell BK163.out 0).trans rfl; have hcz11_1 : w9.cell? ⟨gb163, 1, none⟩ = some (.int .i64 0) := (blk_cell BK163.out 1).trans rfl; have hcz11_2 : w9.cell? ⟨gb163, 2, none⟩ = some (.int .i64 0) := (blk_cell BK163.out 2).trans rfl; have hcz11_3 : w9.cell? ⟨gb163, 3, none⟩ = some (.slice none 0 0) := (blk_cell BK163.out 3).trans rfl; have hfz11_0 := blk_frozen BK163.out 0; have hfz11_1 := blk_frozen BK163.out 1; have hfz11_2 := blk_frozen BK163.out 2; have hfz11_3 := blk_frozen BK163.out 3) | ((with_reducible refine gate_callee (f := 27) rfl ?_); refine goesL_ (some 17) rfl rfl Try.func27 (by kernel_rfl) rfl #[.int .i64 a1, .int .i64 (wrap64 (2 + t162))] rfl (by (try simp only [List.map_toArray, List.map_cons, List.map_nil]); first | done | rfl | (simp only [List.length_drop, List.length_take]; rfl)) ?_; (with_reducible refine (racewaylaw8_pick.calls a1 (wrap64 (2 + t162)) t164 _ A5.out).mono ?_); rintro e w' ⟨rfl, ⟨nd, rfl⟩⟩; refine ⟨_, rfl, ?_⟩))
  have n0_ : Aside0 ((((((w9.setCell ⟨gb163, 0, none⟩ (.int .i64 (wrap64 (2 + t162)))).setCell ⟨gb163, 1, none⟩ (.int .i64 0)).setCell ⟨gb163, 2, none⟩ (.int .i64 0)).setCell ⟨gb163, 3, none⟩ (.slice none 0 0)).setCell ⟨gb163, 1, none⟩ (.int .i64 (wrap64 (1 + t164)))).heap[gb161]? = some (.cells #[.int .i64 0, .int .i64 0, .int .i64 0, .slice none 0 0] 26 (0, 0))) := ⟨by (with_reducible repeat first | refine blk_drewN ?_ _ | refine blk_drew ?_ | refine blk_alloc ?_ _); refine blk_far ?_ NB161_163.out _; (with_reducible repeat first | refine blk_drewN ?_ _ | refine blk_drew ?_ | refine blk_alloc ?_ _); refine blk_far ?_ NB161_163.out _; (with_reducible repeat first | refine blk_drewN ?_ _ | refine blk_drew ?_ | refine blk_alloc ?_ _); refine blk_far ?_ NB161_163.out _; (with_reducible repeat first | refine blk_drewN ?_ _ | refine blk_drew ?_ | refine blk_alloc ?_ _); refine blk_far ?_ NB161_163.out _; (with_reducible repeat first | refine blk_drewN ?_ _ | refine blk_drew ?_ | refine blk_alloc ?_ _); refine blk_far ?_ NB161_163.out _; (with_reducible repeat first | refine blk_drewN ?_ _ | refine blk_drew ?_ | refine blk_alloc ?_ _); exact BK161.out⟩
  have n1_ : Aside0 ((((((w9.setCell ⟨gb163, 0, none⟩ (.int .i64 (wrap64 (2 + t162)))).setCell ⟨gb163, 1, none⟩ (.int .i64 0)).setCell ⟨gb163, 2, none⟩ (.int .i64 0)).setCell ⟨gb163, 3, none⟩ (.slice none 0 0)).setCell ⟨gb163, 1, none⟩ (.int .i64 (wrap64 (1 + t164)))).heap[gb163]? = some (.cells #[.int .i64 (wrap64 (2 + t162)), .int .i64 (wrap64 (1 + t164)), .int .i64 0, .slice none 0 0] 26 (0, 0))) := ⟨by (with_reducible repeat first | refine blk_drewN ?_ _ | refine blk_drew ?_ | refine blk_alloc ?_ _); refine blk_put (cs := #[.int .i64 (wrap64 (2 + t162)), .int .i64 0, .int .i64 0, .slice none 0 0]) ?_ 1 _ rfl; (with_reducible repeat first | refine blk_drewN ?_ _ | refine blk_drew ?_ | refine blk_alloc ?_ _); refine blk_put (cs := #[.int .i64 (wrap64 (2 + t162)), .int .i64 0, .int .i64 0, .slice none 0 0]) ?_ 3 _ rfl; (with_reducible repeat first | refine blk_drewN ?_ _ | refine blk_drew ?_ | refine blk_alloc ?_ _); refine blk_put (cs := #[.int .i64 (wrap64 (2 + t162)), .int .i64 0, .int .i64 0, .slice none 0 0]) ?_ 2 _ rfl; (with_reducible repeat first | refine blk_drewN ?_ _ | refine blk_drew ?_ | refine blk_alloc ?_ _); refine blk_put (cs := #[.int .i64 (wrap64 (2 + t162)), .int .i64 0, .int .i64 0, .slice none 0 0]) ?_ 1 _ rfl; (with_reducible repeat first | refine blk_drewN ?_ _ | refine blk_drew ?_ | refine blk_alloc ?_ _); refine blk_put (cs := #[.int .i64 0, .int .i64 0, .int .i64 0, .slice none 0 0]) ?_ 0 _ rfl; (with_reducible repeat first | refine blk_drewN ?_ _ | refine blk_drew ?_ | refine blk_alloc ?_ _); exact BK163.out⟩
  have n2_ : Aside0 (Below w.heap.size w (((((w9.setCell ⟨gb163, 0, none⟩ (.int .i64 (wrap64 (2 + t162)))).setCell ⟨gb163, 1, none⟩ (.int .i64 0)).setCell ⟨gb163, 2, none⟩ (.int .i64 0)).setCell ⟨gb163, 3, none⟩ (.slice none 0 0)).setCell ⟨gb163, 1, none⟩ (.int .i64 (wrap64 (1 + t164))))) := ⟨by repeat (first | (with_reducible first | exact HB.out | apply below_alloc | apply pw_below_drewN | apply below_drew1 | refine below_set ?_ GE161.out | refine below_set ?_ GE163.out) | exact HB.out)⟩
  (try clear BK161)
  (try clear BK163)
  (try clear HB)
  (try simp only [Go.Proofs.YtdiaedecnfbgdaaW.MyOpen.setCell_drewN_out])
  generalize (((((w9.setCell ⟨gb163, 0, none⟩ (.int .i64 (wrap64 (2 + t162)))).setCell ⟨gb163, 1, none⟩ (.int .i64 0)).setCell ⟨gb163, 2, none⟩ (.int .i64 0)).setCell ⟨gb163, 3, none⟩ (.slice none 0 0)).setCell ⟨gb163, 1, none⟩ (.int .i64 (wrap64 (1 + t164)))) = w12 at n0_ n1_ n2_ ⊢
  have BK161 := n0_
  have BK163 := n1_
  have HB := n2_
  clear n0_ n1_ n2_
  (try (rw [drewN_self w12]; generalize hq_ : World.drewN w12 _ = w12; have n0_ : Aside0 (w12.heap[gb161]? = some (.cells #[.int .i64 0, .int .i64 0, .int .i64 0, .slice none 0 0] 26 (0, 0))) := ⟨by rw [← hq_]; exact (by (with_reducible repeat first | refine blk_drewN ?_ _ | refine blk_drew ?_ | refine blk_alloc ?_ _); exact BK161.out)⟩; have n1_ : Aside0 (w12.heap[gb163]? = some (.cells #[.int .i64 (wrap64 (2 + t162)), .int .i64 (wrap64 (1 + t164)), .int .i64 0, .slice none 0 0] 26 (0, 0))) := ⟨by rw [← hq_]; exact (by (with_reducible repeat first | refine blk_drewN ?_ _ | refine blk_drew ?_ | refine blk_alloc ?_ _); exact BK163.out)⟩; have n2_ : Aside0 (Below w.heap.size w w12) := ⟨by rw [← hq_]; exact (by repeat (first | (with_reducible first | exact HB.out | apply below_alloc | apply pw_below_drewN | apply below_drew1 | refine below_set ?_ GE161.out | refine below_set ?_ GE163.out) | exact HB.out))⟩; clear BK161 BK163 HB hq_; have BK161 := n0_; have BK163 := n1_; have HB := n2_; clear n0_ n1_ n2_; have hcqBK161_0 : w12.cell? ⟨gb161, 0, none⟩ = some (.int .i64 0) := (blk_cell BK161.out 0).trans rfl; have hfqBK161_0 := blk_frozen BK161.out 0; have hcqBK161_1 : w12.cell? ⟨gb161, 1, none⟩ = some (.int .i64 0) := (blk_cell BK161.out 1).trans rfl; have hfqBK161_1 := blk_frozen BK161.out 1; have hcqBK161_2 : w12.cell? ⟨gb161, 2, none⟩ = some (.int .i64 0) := (blk_cell BK161.out 2).trans rfl; have hfqBK161_2 := blk_frozen BK161.out 2; have hcqBK161_3 : w12.cell? ⟨gb161, 3, none⟩ = some (.slice none 0 0) := (blk_cell BK161.out 3).trans rfl; have hfqBK161_3 := blk_frozen BK161.out 3; have hcqBK163_0 : w12.cell? ⟨gb163, 0, none⟩ = some (.int .i64 (wrap64 (2 + t162))) := (blk_cell BK163.out 0).trans rfl; have hfqBK163_0 := blk_frozen BK163.out 0; have hcqBK163_1 : w12.cell? ⟨gb163, 1, none⟩ = some (.int .i64 (wrap64 (1 + t164))) := (blk_cell BK163.out 1).trans rfl; have hfqBK163_1 := blk_frozen BK163.out 1; have hcqBK163_2 : w12.cell? ⟨gb163, 2, none⟩ = some (.int .i64 0) := (blk_cell BK163.out 2).trans rfl; have hfqBK163_2 := blk_frozen BK163.out 2; have hcqBK163_3 : w12.cell? ⟨gb163, 3, none⟩ = some (.slice none 0 0) := (blk_cell BK163.out 3).trans rfl; have hfqBK163_3 := blk_frozen BK163.out 3))
  have n0_ := Aside0.mk (blk_drew BK161.out)
  have n1_ := Aside0.mk (blk_drew BK163.out)
  have n2_ := Aside0.mk (below_drew1 HB.out)
  clear BK161
  clear BK163
  clear HB
  have BK161 := n0_
  have BK163 := n1_
  have HB := n2_
  clear n0_ n1_ n2_
  refine start_ (n := 15) (S := fun w' => w'.cell? ⟨gb163, 0, none⟩ = some (.int .i64 (wrap64 (2 + t162))) ∧ w'.cell? ⟨gb163, 1, none⟩ = some (.int .i64 (wrap64 (1 + t164))) ∧ w'.cell? ⟨gb163, 2, none⟩ = some (.int .i64 0) ∧ w'.cell? ⟨gb163, 3, none⟩ = some (.slice none 0 0)) (ds := [14]) #[false, false, false, false, false, false, false, false, false, false, false, false, false, false, false] (by kernel_rfl) rfl rfl ⟨(blk_cell BK163.out 0).trans rfl, (blk_cell BK163.out 1).trans rfl, (blk_cell BK163.out 2).trans rfl, (blk_cell BK163.out 3).trans rfl⟩ (fun hHeld => ?_); refine with_tabW racewaylaw8_made.tab3 racewaylaw8_made.bits3 (fun HT_ HW_ => ?_)
  generalize w12.drew = w13 at BK161 BK163 HB hHeld ⊢
  refine pure_ (i := 0) (N := some 20) (v := ?_) (a' := ?_) #[true, false, false, false, false, false, false, false, false, false, false, false, false, false, false] rfl rfl (any_of HT_.out (by kernel_rfl)) (fun _ _ _ h => h) (Or.inl ⟨by rfl, ?_⟩) ?_ ?_
  rotate_left
  ·intro w'
   go_simp
   with_reducible rfl
  rotate_left
  ·simp only [Act.put, List.setIfInBounds_toArray, List.set_cons_zero, List.set_cons_succ, i64_w, i32_w]
   rfl
  refine pure_ (i := 2) (N := some 22) (v := ?_) (a' := ?_) #[true, false, true, false, false, false, false, false, false, false, false, false, false, false, false] rfl rfl (any_of HT_.out (by kernel_rfl)) (fun _ _ _ h => h) (Or.inl ⟨by rfl, ?_⟩) ?_ ?_
  rotate_left
  ·intro w'
   go_simp
   with_reducible rfl
  rotate_left
  ·simp only [Act.put, List.setIfInBounds_toArray, List.set_cons_zero, List.set_cons_succ, i64_w, i32_w]
   rfl
  refine pure_ (i := 3) (N := some 23) (v := ?_) (a' := ?_) #[true, false, true, true, false, false, false, false, false, false, false, false, false, false, false] rfl rfl (any_of HT_.out (by kernel_rfl)) (fun _ _ _ h => h) (Or.inl ⟨by rfl, ?_⟩) ?_ ?_
  rotate_left
  ·intro w'
   go_simp
   with_reducible rfl
  rotate_left
  ·simp only [Act.put, List.setIfInBounds_toArray, List.set_cons_zero, List.set_cons_succ, i64_w, i32_w]
   rfl
  refine pure_ (i := 4) (N := some 24) (v := ?_) (a' := ?_) #[true, false, true, true, true, false, false, false, false, false, false, false, false, false, false] rfl rfl (any_of HT_.out (by kernel_rfl)) (fun _ _ _ h => h) (Or.inl ⟨by rfl, ?_⟩) ?_ ?_
  rotate_left
  ·intro w'
   go_simp
   with_reducible rfl
  rotate_left
  ·simp only [Act.put, List.setIfInBounds_toArray, List.set_cons_zero, List.set_cons_succ, i64_w, i32_w]
   rfl
  refine pure_ (i := 9) (N := some 29) (v := ?_) (a' := ?_) #[true, false, true, true, true, false, false, false, false, true, false, false, false, false, false] rfl rfl (any_of HT_.out (by kernel_rfl)) (fun _ _ _ h => h) (Or.inl ⟨by rfl, ?_⟩) ?_ ?_
  rotate_left
  ·intro w'
   go_simp
   with_reducible rfl
  rotate_left
  ·simp only [Act.put, List.setIfInBounds_toArray, List.set_cons_zero, List.set_cons_succ, i64_w, i32_w]
   rfl
  refine take_ (i := 1) (N := some 21) (v := ?_) (a' := ?_) #[true, true, true, true, true, false, false, false, false, true, false, false, false, false, false] rfl rfl (take_ofW HT_.out HW_.out (by kernel_rfl)) (fun _ _ _ h => h) (Or.inl ⟨by rfl, ?_⟩) hHeld ?_ ?_
  rotate_left
  ·rintro w' ⟨s0, s1, s2, s3⟩
   go_simp
   with_reducible rfl
  rotate_left
  ·simp only [Act.put, List.setIfInBounds_toArray, List.set_cons_zero, List.set_cons_succ, i64_w, i32_w]
   rfl
  refine take_ (i := 5) (N := some 25) (v := ?_) (a' := ?_) #[true, true, true, true, true, true, false, false, false, true, false, false, false, false, false] rfl rfl (take_ofW HT_.out HW_.out (by kernel_rfl)) (fun _ _ _ h => h) (Or.inl ⟨by rfl, ?_⟩) hHeld ?_ ?_
  rotate_left
  ·rintro w' ⟨s0, s1, s2, s3⟩
   go_simp
   with_reducible rfl
  rotate_left
  ·simp only [Act.put, List.setIfInBounds_toArray, List.set_cons_zero, List.set_cons_succ, i64_w, i32_w]
   rfl
  refine pure_ (i := 6) (N := some 26) (v := ?_) (a' := ?_) #[true, true, true, true, true, true, true, false, false, true, false, false, false, false, false] rfl rfl (any_of HT_.out (by kernel_rfl)) (fun _ _ _ h => h) (Or.inl ⟨by rfl, ?_⟩) ?_ ?_
  rotate_left
  ·intro w'
   go_simp
   with_reducible rfl
  rotate_left
  ·simp only [Act.put, List.setIfInBounds_toArray, List.set_cons_zero, List.set_cons_succ, i64_w, i32_w]
   rfl
  refine take_ (i := 10) (N := some 30) (v := ?_) (a' := ?_) #[true, true, true, true, true, true, true, false, false, true, true, false, false, false, false] rfl rfl (take_ofW HT_.out HW_.out (by kernel_rfl)) (fun _ _ _ h => h) (Or.inl ⟨by rfl, ?_⟩) hHeld ?_ ?_
  rotate_left
  ·rintro w' ⟨s0, s1, s2, s3⟩
   go_simp
   with_reducible rfl
  rotate_left
  ·simp only [Act.put, List.setIfInBounds_toArray, List.set_cons_zero, List.set_cons_succ, i64_w, i32_w]
   rfl
  refine one_ (i := 7) (N := some 27) #[true, true, true, true, true, true, true, true, false, true, true, false, false, false, false] rfl rfl (one_of HT_.out (by kernel_rfl)) (by decide) (fun K hK => ?_)
  refine goes_ Try.func27 (by kernel_rfl) rfl #[.int .i64 (wrap64 (Int.tdiv a1 16)), .int .i64 (wrap64 ((wrap64 (2 + t162)) - 1))] (by rfl) rfl rfl (by (try simp only [List.map_toArray, List.map_cons, List.map_nil]); first | done | rfl | (simp only [List.length_drop, List.length_take]; rfl)) ?_
  with_reducible refine (racewaylaw8_pick.calls (wrap64 (Int.tdiv a1 16)) (wrap64 ((wrap64 (2 + t162)) - 1)) t165 _ A6.out).mono ?_
  rintro e w' ⟨rfl, ⟨nd, rfl⟩⟩
  refine ⟨_, rfl, ?_⟩
  refine hK.out _ _ ⟨(blk_cell BK163.out 0).trans rfl, (blk_cell BK163.out 1).trans rfl, (blk_cell BK163.out 2).trans rfl, (blk_cell BK163.out 3).trans rfl⟩ (fun hHeld => ?_)
  clear hK K
  refine norm_ (a' := ?_) ?_ ?_
  rotate_left
  ·show Act.put _ (some 27) _ = _
   simp only [Act.put, List.setIfInBounds_toArray, List.set_cons_zero, List.set_cons_succ, i64_w, i32_w]
   rfl
  refine pure_ (i := 8) (N := some 28) (v := ?_) (a' := ?_) #[true, true, true, true, true, true, true, true, true, true, true, false, false, false, false] rfl rfl (any_of HT_.out (by kernel_rfl)) (fun _ _ _ h => h) (Or.inl ⟨by rfl, ?_⟩) ?_ ?_
  rotate_left
  ·intro w'
   go_simp
   with_reducible rfl
  rotate_left
  ·simp only [Act.put, List.setIfInBounds_toArray, List.set_cons_zero, List.set_cons_succ, i64_w, i32_w]
   rfl
  refine pure_ (i := 11) (N := some 31) (v := ?_) (a' := ?_) #[true, true, true, true, true, true, true, true, true, true, true, true, false, false, false] rfl rfl (any_of HT_.out (by kernel_rfl)) (fun _ _ _ h => h) (Or.inl ⟨by rfl, ?_⟩) ?_ ?_
  rotate_left
  ·intro w'
   go_simp
   with_reducible rfl
  rotate_left
  ·simp only [Act.put, List.setIfInBounds_toArray, List.set_cons_zero, List.set_cons_succ, i64_w, i32_w]
   rfl
  refine pure_ (i := 12) (N := some 32) (v := ?_) (a' := ?_) #[true, true, true, true, true, true, true, true, true, true, true, true, true, false, false] rfl rfl (any_of HT_.out (by kernel_rfl)) (fun _ _ _ h => h) (Or.inl ⟨by rfl, ?_⟩) ?_ ?_
  rotate_left
  ·intro w'
   go_simp
   with_reducible rfl
  rotate_left
  ·simp only [Act.put, List.setIfInBounds_toArray, List.set_cons_zero, List.set_cons_succ, i64_w, i32_w]
   rfl
  refine pure_ (i := 13) (N := some 33) (v := ?_) (a' := ?_) #[true, true, true, true, true, true, true, true, true, true, true, true, true, true, false] rfl rfl (any_of HT_.out (by kernel_rfl)) (fun _ _ _ h => h) (Or.inl ⟨by rfl, ?_⟩) ?_ ?_
  rotate_left
  ·intro w'
   go_simp
   with_reducible rfl
  rotate_left
  ·simp only [Act.put, List.setIfInBounds_toArray, List.set_cons_zero, List.set_cons_succ, i64_w, i32_w]
   rfl
  refine last_ (i := 14) (N := none) #[true, true, true, true, true, true, true, true, true, true, true, true, true, true, true] rfl rfl (one_of HT_.out (by kernel_rfl)) (by decide) (fun K hK => ?_)
  have hs14 : w13.cell? ⟨gb163, 2, none⟩ = some (.int .i64 0) := (blk_cell BK163.out 2).trans rfl
  have hfs14 := blk_frozen BK163.out 2
  have hns14_0 := NB161_163.out
  have hms14_0 := NB163_161.out
  refine skip_ (w1 := ?_) (by rfl) rfl ?_ ?_
  rotate_left
  ·go_simp
   rfl
  refine hK.out _ _ ?_
  clear hK K
  refine done_ (done_of HT_.out (by kernel_rfl)) ?_
  try go_wp2
  go_loopg [8] k (fun kq v8 w' => ∃ (x8_1 : Int) (x164003_1 : List (S30)) (u164003 : Value), v8 = .int .i64 x8_1 ∧ Aside0 (racewaylaw8_made.l0 kq l2 x8_1 (wrap64 (2 + t162)) (wrap64 (1 + t164)) (wrap64 (1 + (Int.tmod (wrap64 ((wrap64 (1 + t164)) + t165)) (wrap64 (2 + t162))))) x164003_1 = some (r1, r2, r3, r4)) ∧ Aside0 (kq ≤ k) ∧ Aside0 (Kd.R k30 30 w' w.heap.size (fun _ => True) u164003 x164003_1) ∧ Aside0 (w'.heap[gb161]? = some (.cells #[.int .i64 0, .int .i64 0, .int .i64 0, (.slice none 0 0)] 26 (0, 0))) ∧ Aside0 (w'.heap[gb163]? = some (.cells #[.int .i64 (wrap64 (2 + t162)), .int .i64 (wrap64 (1 + t164)), .int .i64 (wrap64 (1 + (Int.tmod (wrap64 ((wrap64 (1 + t164)) + t165)) (wrap64 (2 + t162))))), u164003] 26 (0, 0))) ∧ Aside0 (Below w.heap.size w w'))
  case atStart => exact ⟨(0), (([] : List (S30))), (.slice none 0 0), (by first | rfl | (simp; done) | (simp [*]; done)), H', ⟨Nat.le_refl _⟩, ⟨by first | exact Kd.R_nil _ _ _ _ _ | exact Kd.N_nil _ _ _ _ _ | exact Kd.V_nil _ _ _ _ _ | exact Kd.Q_nil _ _ _ _ _ | exact Kd.S_nil _ _ _ _ _⟩, ⟨by (with_reducible repeat first | refine blk_drewN ?_ _ | refine blk_drew ?_ | refine blk_alloc ?_ _); refine blk_far ?_ NB161_163.out _; (with_reducible repeat first | refine blk_drewN ?_ _ | refine blk_drew ?_ | refine blk_alloc ?_ _); exact BK161.out⟩, ⟨by (with_reducible repeat first | refine blk_drewN ?_ _ | refine blk_drew ?_ | refine blk_alloc ?_ _); refine blk_put (cs := #[.int .i64 (wrap64 (2 + t162)), .int .i64 (wrap64 (1 + t164)), .int .i64 0, .slice none 0 0]) ?_ 2 _ rfl; (with_reducible repeat first | refine blk_drewN ?_ _ | refine blk_drew ?_ | refine blk_alloc ?_ _); exact BK163.out⟩, ⟨by repeat (first | (with_reducible first | exact HB.out | apply below_alloc | apply pw_below_drewN | apply below_drew1 | refine below_set ?_ GE161.out | refine below_set ?_ GE163.out) | exact HB.out)⟩⟩
  case round =>
   clear H'
   try clear c1
   try clear c2
   try clear p2
   try clear p6
   try clear c7
   try clear c7b0
   try clear c7b1
   try clear c10
   try clear hcz11_0
   try clear hcz11_1
   try clear hcz11_2
   try clear hcz11_3
   try clear hfz11_0
   try clear hfz11_1
   try clear hfz11_2
   try clear hfz11_3
   obtain ⟨x8_1, x164003_1, u164003, rfl, HA, HK1, HO_164003, BK161, BK163, HB⟩ := hrel
   cases gk with
   | zero => exact absurd HA.out (by simp [racewaylaw8_made.l0])
   | succ k1 =>
    (have H := HA.out);(clear HA);(simp only [racewaylaw8_made.l0] at H);(have HC15 := Aside0.mk H);(clear H)
    go_upto_region 5 with (fail)
    go_cut [41] (fun v41 wc => ∃ (kq : Nat) (x41_14 : Bool), v41 = .bool x41_14 ∧ Aside0 (racewaylaw8_made.j1 kq l2 x8_1 x41_14 (wrap64 (2 + t162)) (wrap64 (1 + t164)) (wrap64 (1 + (Int.tmod (wrap64 ((wrap64 (1 + t164)) + t165)) (wrap64 (2 + t162))))) x164003_1 = some (r1, r2, r3, r4)) ∧ Aside0 (kq ≤ k1) ∧ Aside0 (Kd.R k30 30 wc w.heap.size (fun _ => True) u164003 x164003_1) ∧ Aside0 (wc.heap[gb161]? = some (.cells #[.int .i64 0, .int .i64 0, .int .i64 0, (.slice none 0 0)] 26 (0, 0))) ∧ Aside0 (wc.heap[gb163]? = some (.cells #[.int .i64 (wrap64 (2 + t162)), .int .i64 (wrap64 (1 + t164)), .int .i64 (wrap64 (1 + (Int.tmod (wrap64 ((wrap64 (1 + t164)) + t165)) (wrap64 (2 + t162))))), u164003] 26 (0, 0))) ∧ Aside0 (Below w.heap.size w wc))
    case first =>
     (have H := HC15.out);(clear HC15)
     by_cases c16 : x8_1 < (l2.length : Int)
     ·(rw [if_pos c16] at H);(have c16b0 : decide (x8_1 < (l2.length : Int)) = true := decide_eq_true c16);(clear c16);((first | rw [c16b0] | (simp only [i64_w, i32_w]; rw [c16b0]) | skip))
      as_aux_lemma =>
       (have H' := Aside0.mk H);(clear H)
       go_wp2
       go_meet
       case rel => exact ⟨_, (decide (x8_1 < 24)), (by first | rfl | (simp; done) | (simp [*]; done)), H', ⟨by have := HK1.out; first | omega | exact Nat.le_refl _⟩, ⟨by (with_reducible repeat first | apply Kd.R_alloc | apply Kd.R_drewN | apply Kd.R_drew); exact HO_164003.out⟩, ⟨by (with_reducible repeat first | refine blk_drewN ?_ _ | refine blk_drew ?_ | refine blk_alloc ?_ _); exact BK161.out⟩, ⟨by (with_reducible repeat first | refine blk_drewN ?_ _ | refine blk_drew ?_ | refine blk_alloc ?_ _); exact BK163.out⟩, ⟨by repeat (first | (with_reducible first | exact HB.out | apply below_alloc | apply pw_below_drewN | apply below_drew1 | refine below_set ?_ GE161.out | refine below_set ?_ GE163.out) | exact HB.out)⟩⟩
     ·(rw [if_neg c16] at H);(have c16b0 : decide (x8_1 < (l2.length : Int)) = false := decide_eq_false c16);(clear c16);((first | rw [c16b0] | (simp only [i64_w, i32_w]; rw [c16b0]) | skip))
      as_aux_lemma =>
       (have H' := Aside0.mk H);(clear H)
       go_wp2
       go_meet
       case rel => exact ⟨_, (false), (by first | rfl | (simp; done) | (simp [*]; done)), H', ⟨by have := HK1.out; first | omega | exact Nat.le_refl _⟩, ⟨by (with_reducible repeat first | apply Kd.R_alloc | apply Kd.R_drewN | apply Kd.R_drew); exact HO_164003.out⟩, ⟨by (with_reducible repeat first | refine blk_drewN ?_ _ | refine blk_drew ?_ | refine blk_alloc ?_ _); exact BK161.out⟩, ⟨by (with_reducible repeat first | refine blk_drewN ?_ _ | refine blk_drew ?_ | refine blk_alloc ?_ _); exact BK163.out⟩, ⟨by repeat (first | (with_reducible first | exact HB.out | apply below_alloc | apply pw_below_drewN | apply below_drew1 | refine below_set ?_ GE161.out | refine below_set ?_ GE163.out) | exact HB.out)⟩⟩
    case rest =>
     clear HC15
     try clear c1
     try clear c2
     try clear p2
     try clear p6
     try clear c7
     try clear c7b0
     try clear c7b1
     try clear c10
     try clear c16
     try clear c16b0
     try clear hcz11_0
     try clear hcz11_1
     try clear hcz11_2
     try clear hcz11_3
     try clear hfz11_0
     try clear hfz11_1
     try clear hfz11_2
     try clear hfz11_3
     try clear p2
     try clear p6
     obtain ⟨kq, x41_14, rfl, HA, HJ14, HO_164003, BK161, BK163, HB⟩ := hcut
     cases kq with
     | zero => exact absurd HA.out (by simp [racewaylaw8_made.j1])
     | succ kj14 =>
      (have H := HA.out);(clear HA);(simp only [racewaylaw8_made.j1] at H)
      by_cases c17 : x41_14 = true
      ·(subst c17);(have H1 : (if 0 ≤ x8_1 then (if x8_1 < (l2.length : Int) then ((racewaylaw8_pick.f ((rd_T91 l2 x8_1).f2) 21).bind fun t167 => ((racewaylaw8_pick.f (wrap64 (Int.tdiv ((rd_T91 l2 x8_1).f2) 21)) 9).bind fun t169 => (if t169 = 0 then ((racewaylaw8_pick.f ((rd_T91 l2 x8_1).f2) 1000000).bind fun t171 => ((racewaylaw8_pick.f ((rd_T91 l2 x8_1).f0) (wrap64 (2 + t162))).bind fun t173 => ((racewaylaw8_pick.f ((rd_T91 l2 x8_1).f1) (wrap64 (2 + t162))).bind fun t175 => (if x164003_1.length < 5864062014805 then (racewaylaw8_made.l0 kj14 l2 (wrap64 (x8_1 + 1)) (wrap64 (2 + t162)) (wrap64 (1 + t164)) (wrap64 (1 + (Int.tmod (wrap64 ((wrap64 (1 + t164)) + t165)) (wrap64 (2 + t162))))) (x164003_1 ++ [(⟨wrap64 (1 + t173), wrap64 (1 + t175), t171⟩ : S30)])) else (none))))) else ((racewaylaw8_pick.f ((rd_T91 l2 x8_1).f0) (wrap64 (2 + t162))).bind fun t180 => ((racewaylaw8_pick.f ((rd_T91 l2 x8_1).f1) (wrap64 (2 + t162))).bind fun t182 => (if x164003_1.length < 5864062014805 then (racewaylaw8_made.l0 kj14 l2 (wrap64 (x8_1 + 1)) (wrap64 (2 + t162)) (wrap64 (1 + t164)) (wrap64 (1 + (Int.tmod (wrap64 ((wrap64 (1 + t164)) + t165)) (wrap64 (2 + t162))))) (x164003_1 ++ [(⟨wrap64 (1 + t180), wrap64 (1 + t182), t167⟩ : S30)])) else (none))))))) else (none)) else (none)) = some (r1, r2, r3, r4) := by rw [if_pos rfl] at H; exact H);(clear H);(have H := H1);(clear H1)
       by_cases c18 : 0 ≤ x8_1
       ·(rw [if_pos c18] at H);(have c18b0 : decide (0 ≤ x8_1) = true := decide_eq_true c18);(clear c18)
        by_cases c19 : x8_1 < (l2.length : Int)
        ·(rw [if_pos c19] at H);(have c19b0 : decide (x8_1 < (l2.length : Int)) = true := decide_eq_true c19);(clear c19);(replace H := Option.bind_eq_some_iff.mp H);(obtain ⟨t167, A200, H⟩ := H);(replace H : ((racewaylaw8_pick.f (wrap64 (Int.tdiv ((rd_T91 l2 x8_1).f2) 21)) 9).bind fun t169 => (if t169 = 0 then ((racewaylaw8_pick.f ((rd_T91 l2 x8_1).f2) 1000000).bind fun t171 => ((racewaylaw8_pick.f ((rd_T91 l2 x8_1).f0) (wrap64 (2 + t162))).bind fun t173 => ((racewaylaw8_pick.f ((rd_T91 l2 x8_1).f1) (wrap64 (2 + t162))).bind fun t175 => (if x164003_1.length < 5864062014805 then (racewaylaw8_made.l0 kj14 l2 (wrap64 (x8_1 + 1)) (wrap64 (2 + t162)) (wrap64 (1 + t164)) (wrap64 (1 + (Int.tmod (wrap64 ((wrap64 (1 + t164)) + t165)) (wrap64 (2 + t162))))) (x164003_1 ++ [(⟨wrap64 (1 + t173), wrap64 (1 + t175), t171⟩ : S30)])) else (none))))) else ((racewaylaw8_pick.f ((rd_T91 l2 x8_1).f0) (wrap64 (2 + t162))).bind fun t180 => ((racewaylaw8_pick.f ((rd_T91 l2 x8_1).f1) (wrap64 (2 + t162))).bind fun t182 => (if x164003_1.length < 5864062014805 then (racewaylaw8_made.l0 kj14 l2 (wrap64 (x8_1 + 1)) (wrap64 (2 + t162)) (wrap64 (1 + t164)) (wrap64 (1 + (Int.tmod (wrap64 ((wrap64 (1 + t164)) + t165)) (wrap64 (2 + t162))))) (x164003_1 ++ [(⟨wrap64 (1 + t180), wrap64 (1 + t182), t167⟩ : S30)])) else (none)))))) = some (r1, r2, r3, r4) := H);(have A20 := Aside0.mk A200);(clear A200);(replace H := Option.bind_eq_some_iff.mp H);(obtain ⟨t169, A210, H⟩ := H);(replace H : (if t169 = 0 then ((racewaylaw8_pick.f ((rd_T91 l2 x8_1).f2) 1000000).bind fun t171 => ((racewaylaw8_pick.f ((rd_T91 l2 x8_1).f0) (wrap64 (2 + t162))).bind fun t173 => ((racewaylaw8_pick.f ((rd_T91 l2 x8_1).f1) (wrap64 (2 + t162))).bind fun t175 => (if x164003_1.length < 5864062014805 then (racewaylaw8_made.l0 kj14 l2 (wrap64 (x8_1 + 1)) (wrap64 (2 + t162)) (wrap64 (1 + t164)) (wrap64 (1 + (Int.tmod (wrap64 ((wrap64 (1 + t164)) + t165)) (wrap64 (2 + t162))))) (x164003_1 ++ [(⟨wrap64 (1 + t173), wrap64 (1 + t175), t171⟩ : S30)])) else (none))))) else ((racewaylaw8_pick.f ((rd_T91 l2 x8_1).f0) (wrap64 (2 + t162))).bind fun t180 => ((racewaylaw8_pick.f ((rd_T91 l2 x8_1).f1) (wrap64 (2 + t162))).bind fun t182 => (if x164003_1.length < 5864062014805 then (racewaylaw8_made.l0 kj14 l2 (wrap64 (x8_1 + 1)) (wrap64 (2 + t162)) (wrap64 (1 + t164)) (wrap64 (1 + (Int.tmod (wrap64 ((wrap64 (1 + t164)) + t165)) (wrap64 (2 + t162))))) (x164003_1 ++ [(⟨wrap64 (1 + t180), wrap64 (1 + t182), t167⟩ : S30)])) else (none))))) = some (r1, r2, r3, r4) := H);(have A21 := Aside0.mk A210);(clear A210)
         by_cases c22 : t169 = 0
         ·(rw [if_pos c22] at H);(have c22b0 : (t169 == 0) = true := beq_iff_eq.mpr c22);(have c22b1 : (t169 != 0) = false := bne_eq_false_iff_eq.mpr c22);(clear c22);(replace H := Option.bind_eq_some_iff.mp H);(obtain ⟨t171, A230, H⟩ := H);(replace H : ((racewaylaw8_pick.f ((rd_T91 l2 x8_1).f0) (wrap64 (2 + t162))).bind fun t173 => ((racewaylaw8_pick.f ((rd_T91 l2 x8_1).f1) (wrap64 (2 + t162))).bind fun t175 => (if x164003_1.length < 5864062014805 then (racewaylaw8_made.l0 kj14 l2 (wrap64 (x8_1 + 1)) (wrap64 (2 + t162)) (wrap64 (1 + t164)) (wrap64 (1 + (Int.tmod (wrap64 ((wrap64 (1 + t164)) + t165)) (wrap64 (2 + t162))))) (x164003_1 ++ [(⟨wrap64 (1 + t173), wrap64 (1 + t175), t171⟩ : S30)])) else (none)))) = some (r1, r2, r3, r4) := H);(have A23 := Aside0.mk A230);(clear A230);(replace H := Option.bind_eq_some_iff.mp H);(obtain ⟨t173, A240, H⟩ := H);(replace H : ((racewaylaw8_pick.f ((rd_T91 l2 x8_1).f1) (wrap64 (2 + t162))).bind fun t175 => (if x164003_1.length < 5864062014805 then (racewaylaw8_made.l0 kj14 l2 (wrap64 (x8_1 + 1)) (wrap64 (2 + t162)) (wrap64 (1 + t164)) (wrap64 (1 + (Int.tmod (wrap64 ((wrap64 (1 + t164)) + t165)) (wrap64 (2 + t162))))) (x164003_1 ++ [(⟨wrap64 (1 + t173), wrap64 (1 + t175), t171⟩ : S30)])) else (none))) = some (r1, r2, r3, r4) := H);(have A24 := Aside0.mk A240);(clear A240);(replace H := Option.bind_eq_some_iff.mp H);(obtain ⟨t175, A250, H⟩ := H);(replace H : (if x164003_1.length < 5864062014805 then (racewaylaw8_made.l0 kj14 l2 (wrap64 (x8_1 + 1)) (wrap64 (2 + t162)) (wrap64 (1 + t164)) (wrap64 (1 + (Int.tmod (wrap64 ((wrap64 (1 + t164)) + t165)) (wrap64 (2 + t162))))) (x164003_1 ++ [(⟨wrap64 (1 + t173), wrap64 (1 + t175), t171⟩ : S30)])) else (none)) = some (r1, r2, r3, r4) := H);(have A25 := Aside0.mk A250);(clear A250)
          by_cases c26 : x164003_1.length < 5864062014805
          ·(rw [if_pos c26] at H);(have LMc26 := Aside0.mk c26);(clear c26);(obtain ⟨y176, hy176⟩ : ∃ y_ : List (S30), y_ = (x164003_1 ++ [(⟨wrap64 (1 + t173), wrap64 (1 + t175), t171⟩ : S30)]) := ⟨_, rfl⟩);(replace H : (racewaylaw8_made.l0 kj14 l2 (wrap64 (x8_1 + 1)) (wrap64 (2 + t162)) (wrap64 (1 + t164)) (wrap64 (1 + (Int.tmod (wrap64 ((wrap64 (1 + t164)) + t165)) (wrap64 (2 + t162))))) y176) = some (r1, r2, r3, r4) := by first | (rw [hy176]; with_reducible exact H) | (have H2_ := (Option.bind_some _ _).symm.trans H; rw [hy176]; with_reducible exact H2_) | (have H2_ := (Option.bind_some _ _).symm.trans H; with_reducible exact H2_) | with_reducible exact H | (rw [hy176]; exact H) | exact H);(have Ny176 := Aside0.mk hy176);(clear hy176)
           as_aux_lemma =>
            (have H' := Aside0.mk H);(clear H);(have p166 : 0 ≤ (x8_1 : Int) := of_decide_eq_true (by first | (with_reducible assumption) | assumption));(have q166 : x8_1 < (l2.length : Int) := of_decide_eq_true (by first | (with_reducible assumption) | assumption));(obtain ⟨ad166, e166, hx166_0, hx166_1, hx166_2⟩ := at_T91 HR2.out x8_1 p166 q166);(cases e166);(replace hx166_0 := (HB.out.cell (World.block_lt_of_cell? w _ hx166_0)).trans hx166_0);(replace hx166_1 := (HB.out.cell (World.block_lt_of_cell? w _ hx166_1)).trans hx166_1);(replace hx166_2 := (HB.out.cell (World.block_lt_of_cell? w _ hx166_2)).trans hx166_2);(replace p166 := eq_true p166);(replace q166 := eq_true q166)
            try go_wp2_with (first | ((with_reducible refine gate_callee (f := 27) rfl ?_); refine goesL_ (some 49) rfl rfl Try.func27 (by kernel_rfl) rfl #[.int .i64 ((rd_T91 l2 x8_1).f2), .int .i64 21] rfl (by (try simp only [List.map_toArray, List.map_cons, List.map_nil]); first | done | rfl | (simp only [List.length_drop, List.length_take]; rfl)) ?_; (with_reducible refine (racewaylaw8_pick.calls ((rd_T91 l2 x8_1).f2) 21 t167 _ A20.out).mono ?_); rintro e w' ⟨rfl, ⟨nd, rfl⟩⟩; refine ⟨_, rfl, ?_⟩; (try (rw [drewN_self wc]; generalize hq_ : World.drewN wc _ = wc; have n0_ : Aside0 (Kd.R k30 30 wc w.heap.size (fun _ => True) u164003 x164003_1) := ⟨by rw [← hq_]; exact (by (with_reducible repeat first | apply Kd.R_alloc | apply Kd.R_drewN | apply Kd.R_drew); exact HO_164003.out)⟩; have n1_ : Aside0 (wc.heap[gb161]? = some (.cells #[.int .i64 0, .int .i64 0, .int .i64 0, .slice none 0 0] 26 (0, 0))) := ⟨by rw [← hq_]; exact (by (with_reducible repeat first | refine blk_drewN ?_ _ | refine blk_drew ?_ | refine blk_alloc ?_ _); exact BK161.out)⟩; have n2_ : Aside0 (wc.heap[gb163]? = some (.cells #[.int .i64 (wrap64 (2 + t162)), .int .i64 (wrap64 (1 + t164)), .int .i64 (wrap64 (1 + (Int.tmod (wrap64 ((wrap64 (1 + t164)) + t165)) (wrap64 (2 + t162))))), u164003] 26 (0, 0))) := ⟨by rw [← hq_]; exact (by (with_reducible repeat first | refine blk_drewN ?_ _ | refine blk_drew ?_ | refine blk_alloc ?_ _); exact BK163.out)⟩; have n3_ : Aside0 (Below w.heap.size w wc) := ⟨by rw [← hq_]; exact (by repeat (first | (with_reducible first | exact HB.out | apply below_alloc | apply pw_below_drewN | apply below_drew1 | refine below_set ?_ GE161.out | refine below_set ?_ GE163.out) | exact HB.out))⟩; clear HO_164003 BK161 BK163 HB hq_; have HO_164003 := n0_; have BK161 := n1_; have BK163 := n2_; have HB := n3_; clear n0_ n1_ n2_ n3_; have hcqBK161_0 : wc.cell? ⟨gb161, 0, none⟩ = some (.int .i64 0) := (blk_cell BK161.out 0).trans rfl; have hfqBK161_0 := blk_frozen BK161.out 0; have hcqBK161_1 : wc.cell? ⟨gb161, 1, none⟩ = some (.int .i64 0) := (blk_cell BK161.out 1).trans rfl; have hfqBK161_1 := blk_frozen BK161.out 1; have hcqBK161_2 : wc.cell? ⟨gb161, 2, none⟩ = some (.int .i64 0) := (blk_cell BK161.out 2).trans rfl; have hfqBK161_2 := blk_frozen BK161.out 2; have hcqBK161_3 : wc.cell? ⟨gb161, 3, none⟩ = some (.slice none 0 0) := (blk_cell BK161.out 3).trans rfl; have hfqBK161_3 := blk_frozen BK161.out 3; have hcqBK163_0 : wc.cell? ⟨gb163, 0, none⟩ = some (.int .i64 (wrap64 (2 + t162))) := (blk_cell BK163.out 0).trans rfl; have hfqBK163_0 := blk_frozen BK163.out 0; have hcqBK163_1 : wc.cell? ⟨gb163, 1, none⟩ = some (.int .i64 (wrap64 (1 + t164))) := (blk_cell BK163.out 1).trans rfl; have hfqBK163_1 := blk_frozen BK163.out 1; have hcqBK163_2 : wc.cell? ⟨gb163, 2, none⟩ = some (.int .i64 (wrap64 (1 + (Int.tmod (wrap64 ((wrap64 (1 + t164)) + t165)) (wrap64 (2 + t162)))))) := (blk_cell BK163.out 2).trans rfl; have hfqBK163_2 := blk_frozen BK163.out 2; have hcqBK163_3 : wc.cell? ⟨gb163, 3, none⟩ = some (u164003) := (blk_cell BK163.out 3).trans rfl; have hfqBK163_3 := blk_frozen BK163.out 3)); have p168 : 0 ≤ (x8_1 : Int) := of_decide_eq_true (by first | (with_reducible assumption) | assumption); have q168 : x8_1 < (l2.length : Int) := of_decide_eq_true (by first | (with_reducible assumption) | assumption); obtain ⟨ad168, e168, hx168_0, hx168_1, hx168_2⟩ := at_T91 HR2.out x8_1 p168 q168; obtain rfl : ad166 = ad168 := (by injection e168); replace hx168_0 := (HB.out.cell (World.block_lt_of_cell? w _ hx168_0)).trans hx168_0; replace hx168_1 := (HB.out.cell (World.block_lt_of_cell? w _ hx168_1)).trans hx168_1; replace hx168_2 := (HB.out.cell (World.block_lt_of_cell? w _ hx168_2)).trans hx168_2; replace p168 := eq_true p168; replace q168 := eq_true q168) | ((with_reducible refine gate_callee (f := 27) rfl ?_); refine goesL_ (some 56) rfl rfl Try.func27 (by kernel_rfl) rfl #[.int .i64 (wrap64 (Int.tdiv ((rd_T91 l2 x8_1).f2) 21)), .int .i64 9] rfl (by (try simp only [List.map_toArray, List.map_cons, List.map_nil]); first | done | rfl | (simp only [List.length_drop, List.length_take]; rfl)) ?_; (with_reducible refine (racewaylaw8_pick.calls (wrap64 (Int.tdiv ((rd_T91 l2 x8_1).f2) 21)) 9 t169 _ A21.out).mono ?_); rintro e w' ⟨rfl, ⟨nd, rfl⟩⟩; refine ⟨_, rfl, ?_⟩; (try (rw [drewN_self wc]; generalize hq_ : World.drewN wc _ = wc; have n0_ : Aside0 (Kd.R k30 30 wc w.heap.size (fun _ => True) u164003 x164003_1) := ⟨by rw [← hq_]; exact (by (with_reducible repeat first | apply Kd.R_alloc | apply Kd.R_drewN | apply Kd.R_drew); exact HO_164003.out)⟩; have n1_ : Aside0 (wc.heap[gb161]? = some (.cells #[.int .i64 0, .int .i64 0, .int .i64 0, .slice none 0 0] 26 (0, 0))) := ⟨by rw [← hq_]; exact (by (with_reducible repeat first | refine blk_drewN ?_ _ | refine blk_drew ?_ | refine blk_alloc ?_ _); exact BK161.out)⟩; have n2_ : Aside0 (wc.heap[gb163]? = some (.cells #[.int .i64 (wrap64 (2 + t162)), .int .i64 (wrap64 (1 + t164)), .int .i64 (wrap64 (1 + (Int.tmod (wrap64 ((wrap64 (1 + t164)) + t165)) (wrap64 (2 + t162))))), u164003] 26 (0, 0))) := ⟨by rw [← hq_]; exact (by (with_reducible repeat first | refine blk_drewN ?_ _ | refine blk_drew ?_ | refine blk_alloc ?_ _); exact BK163.out)⟩; have n3_ : Aside0 (Below w.heap.size w wc) := ⟨by rw [← hq_]; exact (by repeat (first | (with_reducible first | exact HB.out | apply below_alloc | apply pw_below_drewN | apply below_drew1 | refine below_set ?_ GE161.out | refine below_set ?_ GE163.out) | exact HB.out))⟩; clear HO_164003 BK161 BK163 HB hq_; have HO_164003 := n0_; have BK161 := n1_; have BK163 := n2_; have HB := n3_; clear n0_ n1_ n2_ n3_; have hcqBK161_0 : wc.cell? ⟨gb161, 0, none⟩ = some (.int .i64 0) := (blk_cell BK161.out 0).trans rfl; have hfqBK161_0 := blk_frozen BK161.out 0; have hcqBK161_1 : wc.cell? ⟨gb161, 1, none⟩ = some (.int .i64 0) := (blk_cell BK161.out 1).trans rfl; have hfqBK161_1 := blk_frozen BK161.out 1; have hcqBK161_2 : wc.cell? ⟨gb161, 2, none⟩ = some (.int .i64 0) := (blk_cell BK161.out 2).trans rfl; have hfqBK161_2 := blk_frozen BK161.out 2; have hcqBK161_3 : wc.cell? ⟨gb161, 3, none⟩ = some (.slice none 0 0) := (blk_cell BK161.out 3).trans rfl; have hfqBK161_3 := blk_frozen BK161.out 3; have hcqBK163_0 : wc.cell? ⟨gb163, 0, none⟩ = some (.int .i64 (wrap64 (2 + t162))) := (blk_cell BK163.out 0).trans rfl; have hfqBK163_0 := blk_frozen BK163.out 0; have hcqBK163_1 : wc.cell? ⟨gb163, 1, none⟩ = some (.int .i64 (wrap64 (1 + t164))) := (blk_cell BK163.out 1).trans rfl; have hfqBK163_1 := blk_frozen BK163.out 1; have hcqBK163_2 : wc.cell? ⟨gb163, 2, none⟩ = some (.int .i64 (wrap64 (1 + (Int.tmod (wrap64 ((wrap64 (1 + t164)) + t165)) (wrap64 (2 + t162)))))) := (blk_cell BK163.out 2).trans rfl; have hfqBK163_2 := blk_frozen BK163.out 2; have hcqBK163_3 : wc.cell? ⟨gb163, 3, none⟩ = some (u164003) := (blk_cell BK163.out 3).trans rfl; have hfqBK163_3 := blk_frozen BK163.out 3)); have p170 : 0 ≤ (x8_1 : Int) := of_decide_eq_true (by first | (with_reducible assumption) | assumption); have q170 : x8_1 < (l2.length : Int) := of_decide_eq_true (by first | (with_reducible assumption) | assumption); obtain ⟨ad170, e170, hx170_0, hx170_1, hx170_2⟩ := at_T91 HR2.out x8_1 p170 q170; obtain rfl : ad166 = ad170 := (by injection e170); replace hx170_0 := (HB.out.cell (World.block_lt_of_cell? w _ hx170_0)).trans hx170_0; replace hx170_1 := (HB.out.cell (World.block_lt_of_cell? w _ hx170_1)).trans hx170_1; replace hx170_2 := (HB.out.cell (World.block_lt_of_cell? w _ hx170_2)).trans hx170_2; replace p170 := eq_true p170; replace q170 := eq_true q170) | ((with_reducible refine gate_callee (f := 27) rfl ?_); refine goesL_ (some 63) rfl rfl Try.func27 (by kernel_rfl) rfl #[.int .i64 ((rd_T91 l2 x8_1).f2), .int .i64 1000000] rfl (by (try simp only [List.map_toArray, List.map_cons, List.map_nil]); first | done | rfl | (simp only [List.length_drop, List.length_take]; rfl)) ?_; (with_reducible refine (racewaylaw8_pick.calls ((rd_T91 l2 x8_1).f2) 1000000 t171 _ A23.out).mono ?_); rintro e w' ⟨rfl, ⟨nd, rfl⟩⟩; refine ⟨_, rfl, ?_⟩; (try (rw [drewN_self wc]; generalize hq_ : World.drewN wc _ = wc; have n0_ : Aside0 (Kd.R k30 30 wc w.heap.size (fun _ => True) u164003 x164003_1) := ⟨by rw [← hq_]; exact (by (with_reducible repeat first | apply Kd.R_alloc | apply Kd.R_drewN | apply Kd.R_drew); exact HO_164003.out)⟩; have n1_ : Aside0 (wc.heap[gb161]? = some (.cells #[.int .i64 0, .int .i64 0, .int .i64 0, .slice none 0 0] 26 (0, 0))) := ⟨by rw [← hq_]; exact (by (with_reducible repeat first | refine blk_drewN ?_ _ | refine blk_drew ?_ | refine blk_alloc ?_ _); exact BK161.out)⟩; have n2_ : Aside0 (wc.heap[gb163]? = some (.cells #[.int .i64 (wrap64 (2 + t162)), .int .i64 (wrap64 (1 + t164)), .int .i64 (wrap64 (1 + (Int.tmod (wrap64 ((wrap64 (1 + t164)) + t165)) (wrap64 (2 + t162))))), u164003] 26 (0, 0))) := ⟨by rw [← hq_]; exact (by (with_reducible repeat first | refine blk_drewN ?_ _ | refine blk_drew ?_ | refine blk_alloc ?_ _); exact BK163.out)⟩; have n3_ : Aside0 (Below w.heap.size w wc) := ⟨by rw [← hq_]; exact (by repeat (first | (with_reducible first | exact HB.out | apply below_alloc | apply pw_below_drewN | apply below_drew1 | refine below_set ?_ GE161.out | refine below_set ?_ GE163.out) | exact HB.out))⟩; clear HO_164003 BK161 BK163 HB hq_; have HO_164003 := n0_; have BK161 := n1_; have BK163 := n2_; have HB := n3_; clear n0_ n1_ n2_ n3_; have hcqBK161_0 : wc.cell? ⟨gb161, 0, none⟩ = some (.int .i64 0) := (blk_cell BK161.out 0).trans rfl; have hfqBK161_0 := blk_frozen BK161.out 0; have hcqBK161_1 : wc.cell? ⟨gb161, 1, none⟩ = some (.int .i64 0) := (blk_cell BK161.out 1).trans rfl; have hfqBK161_1 := blk_frozen BK161.out 1; have hcqBK161_2 : wc.cell? ⟨gb161, 2, none⟩ = some (.int .i64 0) := (blk_cell BK161.out 2).trans rfl; have hfqBK161_2 := blk_frozen BK161.out 2; have hcqBK161_3 : wc.cell? ⟨gb161, 3, none⟩ = some (.slice none 0 0) := (blk_cell BK161.out 3).trans rfl; have hfqBK161_3 := blk_frozen BK161.out 3; have hcqBK163_0 : wc.cell? ⟨gb163, 0, none⟩ = some (.int .i64 (wrap64 (2 + t162))) := (blk_cell BK163.out 0).trans rfl; have hfqBK163_0 := blk_frozen BK163.out 0; have hcqBK163_1 : wc.cell? ⟨gb163, 1, none⟩ = some (.int .i64 (wrap64 (1 + t164))) := (blk_cell BK163.out 1).trans rfl; have hfqBK163_1 := blk_frozen BK163.out 1; have hcqBK163_2 : wc.cell? ⟨gb163, 2, none⟩ = some (.int .i64 (wrap64 (1 + (Int.tmod (wrap64 ((wrap64 (1 + t164)) + t165)) (wrap64 (2 + t162)))))) := (blk_cell BK163.out 2).trans rfl; have hfqBK163_2 := blk_frozen BK163.out 2; have hcqBK163_3 : wc.cell? ⟨gb163, 3, none⟩ = some (u164003) := (blk_cell BK163.out 3).trans rfl; have hfqBK163_3 := blk_frozen BK163.out 3))))
            (have n0_ := Aside0.mk (Kd.R_drew HO_164003.out));(have n1_ := Aside0.mk (blk_drew BK161.out));(have n2_ := Aside0.mk (blk_drew BK163.out));(have n3_ := Aside0.mk (below_drew1 HB.out));(clear HO_164003);(clear BK161);(clear BK163);(clear HB);(have HO_164003 := n0_);(have BK161 := n1_);(have BK163 := n2_);(have HB := n3_);(clear n0_ n1_ n2_ n3_);(have p172 : 0 ≤ (x8_1 : Int) := of_decide_eq_true (by first | (with_reducible assumption) | assumption));(have q172 : x8_1 < (l2.length : Int) := of_decide_eq_true (by first | (with_reducible assumption) | assumption));(obtain ⟨ad172, e172, hx172_0, hx172_1, hx172_2⟩ := at_T91 HR2.out x8_1 p172 q172);(have hw172_2 := hx172_2);(have hw172_1 := hx172_1);(have hw172_0 := hx172_0);(obtain rfl : ad166 = ad172 := (by injection e172));(replace hx172_0 := (HB.out.cell (World.block_lt_of_cell? w _ hx172_0)).trans hx172_0);(replace hx172_1 := (HB.out.cell (World.block_lt_of_cell? w _ hx172_1)).trans hx172_1);(replace hx172_2 := (HB.out.cell (World.block_lt_of_cell? w _ hx172_2)).trans hx172_2);(replace p172 := eq_true p172);(replace q172 := eq_true q172);(have p174 : 0 ≤ (x8_1 : Int) := of_decide_eq_true (by first | (with_reducible assumption) | assumption));(have q174 : x8_1 < (l2.length : Int) := of_decide_eq_true (by first | (with_reducible assumption) | assumption));(obtain ⟨ad174, e174, hx174_0, hx174_1, hx174_2⟩ := at_T91 HR2.out x8_1 p174 q174);(have hw174_2 := hx174_2);(have hw174_1 := hx174_1);(have hw174_0 := hx174_0);(obtain rfl : ad166 = ad174 := (by injection e174));(replace hx174_0 := (HB.out.cell (World.block_lt_of_cell? w _ hx174_0)).trans hx174_0);(replace hx174_1 := (HB.out.cell (World.block_lt_of_cell? w _ hx174_1)).trans hx174_1);(replace hx174_2 := (HB.out.cell (World.block_lt_of_cell? w _ hx174_2)).trans hx174_2);(replace p174 := eq_true p174);(replace q174 := eq_true q174);(refine start_ (n := 26) (S := fun w' => w'.cell? ⟨gb163, 0, none⟩ = some (.int .i64 (wrap64 (2 + t162))) ∧ w'.cell? ⟨gb163, 1, none⟩ = some (.int .i64 (wrap64 (1 + t164))) ∧ w'.cell? ⟨gb163, 2, none⟩ = some (.int .i64 (wrap64 (1 + (Int.tmod (wrap64 ((wrap64 (1 + t164)) + t165)) (wrap64 (2 + t162)))))) ∧ w'.cell? ⟨gb163, 3, none⟩ = some (u164003) ∧ w'.cell? (ad166.add ((x8_1).toNat * 3)) = some (.int .i64 ((rd_T91 l2 x8_1).f0)) ∧ w'.cell? ⟨(ad166.add ((x8_1).toNat * 3)).block, (ad166.add ((x8_1).toNat * 3)).off + 1, none⟩ = some (.int .i64 ((rd_T91 l2 x8_1).f1)) ∧ w'.cell? ⟨(ad166.add ((x8_1).toNat * 3)).block, (ad166.add ((x8_1).toNat * 3)).off + 2, none⟩ = some (.int .i64 ((rd_T91 l2 x8_1).f2)) ∧ w'.cell? (ad166.add ((x8_1).toNat * 3)) = some (.int .i64 ((rd_T91 l2 x8_1).f0)) ∧ w'.cell? ⟨(ad166.add ((x8_1).toNat * 3)).block, (ad166.add ((x8_1).toNat * 3)).off + 1, none⟩ = some (.int .i64 ((rd_T91 l2 x8_1).f1)) ∧ w'.cell? ⟨(ad166.add ((x8_1).toNat * 3)).block, (ad166.add ((x8_1).toNat * 3)).off + 2, none⟩ = some (.int .i64 ((rd_T91 l2 x8_1).f2))) (ds := [25]) #[false, false, false, false, false, false, false, false, false, false, false, false, false, false, false, false, false, false, false, false, false, false, false, false, false, false] (by kernel_rfl) rfl rfl ⟨(blk_cell BK163.out 0).trans rfl, (blk_cell BK163.out 1).trans rfl, (blk_cell BK163.out 2).trans rfl, (blk_cell BK163.out 3).trans rfl, ((HB.out.cell (World.block_lt_of_cell? w _ hw172_0)).trans hw172_0), ((HB.out.cell (World.block_lt_of_cell? w _ hw172_1)).trans hw172_1), ((HB.out.cell (World.block_lt_of_cell? w _ hw172_2)).trans hw172_2), ((HB.out.cell (World.block_lt_of_cell? w _ hw174_0)).trans hw174_0), ((HB.out.cell (World.block_lt_of_cell? w _ hw174_1)).trans hw174_1), ((HB.out.cell (World.block_lt_of_cell? w _ hw174_2)).trans hw174_2)⟩ (fun hHeld => ?_); refine with_tabW racewaylaw8_made.tab10 racewaylaw8_made.bits10 (fun HT_ HW_ => ?_));(generalize wc.drew = w27 at HO_164003 BK161 BK163 HB hx172_0 hx172_1 hx172_2 hx174_0 hx174_1 hx174_2 hHeld ⊢);(refine pure_ (i := 0) (N := some 64) (v := ?_) (a' := ?_) #[true, false, false, false, false, false, false, false, false, false, false, false, false, false, false, false, false, false, false, false, false, false, false, false, false, false] rfl rfl (any_of HT_.out (by kernel_rfl)) (fun _ _ _ h => h) (Or.inl ⟨by rfl, ?_⟩) ?_ ?_)
            rotate_left
            ·intro w'
             go_simp
             with_reducible rfl
            rotate_left
            ·simp only [Act.put, List.setIfInBounds_toArray, List.set_cons_zero, List.set_cons_succ, i64_w, i32_w]
             rfl
            refine pure_ (i := 2) (N := some 66) (v := ?_) (a' := ?_) #[true, false, true, false, false, false, false, false, false, false, false, false, false, false, false, false, false, false, false, false, false, false, false, false, false, false] rfl rfl (any_of HT_.out (by kernel_rfl)) (fun _ _ _ h => h) (Or.inl ⟨by rfl, ?_⟩) ?_ ?_
            rotate_left
            ·intro w'
             go_simp
             with_reducible rfl
            rotate_left
            ·simp only [Act.put, List.setIfInBounds_toArray, List.set_cons_zero, List.set_cons_succ, i64_w, i32_w]
             rfl
            refine pure_ (i := 3) (N := some 67) (v := ?_) (a' := ?_) #[true, false, true, true, false, false, false, false, false, false, false, false, false, false, false, false, false, false, false, false, false, false, false, false, false, false] rfl rfl (any_of HT_.out (by kernel_rfl)) (fun _ _ _ h => h) (Or.inl ⟨by rfl, ?_⟩) ?_ ?_
            rotate_left
            ·intro w'
             go_simp
             with_reducible rfl
            rotate_left
            ·simp only [Act.put, List.setIfInBounds_toArray, List.set_cons_zero, List.set_cons_succ, i64_w, i32_w]
             rfl
            refine pure_ (i := 4) (N := some 68) (v := ?_) (a' := ?_) #[true, false, true, true, true, false, false, false, false, false, false, false, false, false, false, false, false, false, false, false, false, false, false, false, false, false] rfl rfl (any_of HT_.out (by kernel_rfl)) (fun _ _ _ h => h) (Or.inl ⟨by rfl, ?_⟩) ?_ ?_
            rotate_left
            ·intro w'
             go_simp
             with_reducible rfl
            rotate_left
            ·simp only [Act.put, List.setIfInBounds_toArray, List.set_cons_zero, List.set_cons_succ, i64_w, i32_w]
             rfl
            refine pure_ (i := 5) (N := some 69) (v := ?_) (a' := ?_) #[true, false, true, true, true, true, false, false, false, false, false, false, false, false, false, false, false, false, false, false, false, false, false, false, false, false] rfl rfl (any_of HT_.out (by kernel_rfl)) (fun _ _ _ h => h) (Or.inl ⟨by rfl, ?_⟩) ?_ ?_
            rotate_left
            ·intro w'
             go_simp
             with_reducible rfl
            rotate_left
            ·simp only [Act.put, List.setIfInBounds_toArray, List.set_cons_zero, List.set_cons_succ, i64_w, i32_w]
             rfl
            refine pure_ (i := 7) (N := some 71) (v := ?_) (a' := ?_) #[true, false, true, true, true, true, false, true, false, false, false, false, false, false, false, false, false, false, false, false, false, false, false, false, false, false] rfl rfl (any_of HT_.out (by kernel_rfl)) (fun _ _ _ h => h) (Or.inl ⟨by rfl, ?_⟩) ?_ ?_
            rotate_left
            ·intro w'
             go_simp
             with_reducible rfl
            rotate_left
            ·simp only [Act.put, List.setIfInBounds_toArray, List.set_cons_zero, List.set_cons_succ, i64_w, i32_w]
             rfl
            refine pure_ (i := 11) (N := some 75) (v := ?_) (a' := ?_) #[true, false, true, true, true, true, false, true, false, false, false, true, false, false, false, false, false, false, false, false, false, false, false, false, false, false] rfl rfl (any_of HT_.out (by kernel_rfl)) (fun _ _ _ h => h) (Or.inl ⟨by rfl, ?_⟩) ?_ ?_
            rotate_left
            ·intro w'
             go_simp
             with_reducible rfl
            rotate_left
            ·simp only [Act.put, List.setIfInBounds_toArray, List.set_cons_zero, List.set_cons_succ, i64_w, i32_w]
             rfl
            refine pure_ (i := 12) (N := some 76) (v := ?_) (a' := ?_) #[true, false, true, true, true, true, false, true, false, false, false, true, true, false, false, false, false, false, false, false, false, false, false, false, false, false] rfl rfl (any_of HT_.out (by kernel_rfl)) (fun _ _ _ h => h) (Or.inl ⟨by rfl, ?_⟩) ?_ ?_
            rotate_left
            ·intro w'
             go_simp
             with_reducible rfl
            rotate_left
            ·simp only [Act.put, List.setIfInBounds_toArray, List.set_cons_zero, List.set_cons_succ, i64_w, i32_w]
             rfl
            refine pure_ (i := 13) (N := some 77) (v := ?_) (a' := ?_) #[true, false, true, true, true, true, false, true, false, false, false, true, true, true, false, false, false, false, false, false, false, false, false, false, false, false] rfl rfl (any_of HT_.out (by kernel_rfl)) (fun _ _ _ h => h) (Or.inl ⟨by rfl, ?_⟩) ?_ ?_
            rotate_left
            ·intro w'
             go_simp
             with_reducible rfl
            rotate_left
            ·simp only [Act.put, List.setIfInBounds_toArray, List.set_cons_zero, List.set_cons_succ, i64_w, i32_w]
             rfl
            refine pure_ (i := 14) (N := some 78) (v := ?_) (a' := ?_) #[true, false, true, true, true, true, false, true, false, false, false, true, true, true, true, false, false, false, false, false, false, false, false, false, false, false] rfl rfl (any_of HT_.out (by kernel_rfl)) (fun _ _ _ h => h) (Or.inl ⟨by rfl, ?_⟩) ?_ ?_
            rotate_left
            ·intro w'
             go_simp
             with_reducible rfl
            rotate_left
            ·simp only [Act.put, List.setIfInBounds_toArray, List.set_cons_zero, List.set_cons_succ, i64_w, i32_w]
             rfl
            refine pure_ (i := 16) (N := some 80) (v := ?_) (a' := ?_) #[true, false, true, true, true, true, false, true, false, false, false, true, true, true, true, false, true, false, false, false, false, false, false, false, false, false] rfl rfl (any_of HT_.out (by kernel_rfl)) (fun _ _ _ h => h) (Or.inl ⟨by rfl, ?_⟩) ?_ ?_
            rotate_left
            ·intro w'
             go_simp
             with_reducible rfl
            rotate_left
            ·simp only [Act.put, List.setIfInBounds_toArray, List.set_cons_zero, List.set_cons_succ, i64_w, i32_w]
             rfl
            refine pure_ (i := 20) (N := some 84) (v := ?_) (a' := ?_) #[true, false, true, true, true, true, false, true, false, false, false, true, true, true, true, false, true, false, false, false, true, false, false, false, false, false] rfl rfl (any_of HT_.out (by kernel_rfl)) (fun _ _ _ h => h) (Or.inl ⟨by rfl, ?_⟩) ?_ ?_
            rotate_left
            ·intro w'
             go_simp
             with_reducible rfl
            rotate_left
            ·simp only [Act.put, List.setIfInBounds_toArray, List.set_cons_zero, List.set_cons_succ, i64_w, i32_w]
             rfl
            refine take_ (i := 1) (N := some 65) (v := ?_) (a' := ?_) #[true, true, true, true, true, true, false, true, false, false, false, true, true, true, true, false, true, false, false, false, true, false, false, false, false, false] rfl rfl (take_ofW HT_.out HW_.out (by kernel_rfl)) (fun _ _ _ h => h) (Or.inl ⟨by rfl, ?_⟩) hHeld ?_ ?_
            rotate_left
            ·rintro w' ⟨s0, s1, s2, s3, s4, s5, s6, s7, s8, s9⟩
             go_simp
             with_reducible rfl
            rotate_left
            ·simp only [Act.put, List.setIfInBounds_toArray, List.set_cons_zero, List.set_cons_succ, i64_w, i32_w]
             rfl
            refine take_ (i := 6) (N := some 70) (v := ?_) (a' := ?_) #[true, true, true, true, true, true, true, true, false, false, false, true, true, true, true, false, true, false, false, false, true, false, false, false, false, false] rfl rfl (take_ofW HT_.out HW_.out (by kernel_rfl)) (fun _ _ _ h => h) (Or.inl ⟨by rfl, ?_⟩) hHeld ?_ ?_
            rotate_left
            ·rintro w' ⟨s0, s1, s2, s3, s4, s5, s6, s7, s8, s9⟩
             go_simp
             with_reducible rfl
            rotate_left
            ·simp only [Act.put, List.setIfInBounds_toArray, List.set_cons_zero, List.set_cons_succ, i64_w, i32_w]
             rfl
            refine take_ (i := 8) (N := some 72) (v := ?_) (a' := ?_) #[true, true, true, true, true, true, true, true, true, false, false, true, true, true, true, false, true, false, false, false, true, false, false, false, false, false] rfl rfl (take_ofW HT_.out HW_.out (by kernel_rfl)) (fun _ _ _ h => h) (Or.inl ⟨by rfl, ?_⟩) hHeld ?_ ?_
            rotate_left
            ·rintro w' ⟨s0, s1, s2, s3, s4, s5, s6, s7, s8, s9⟩
             go_simp
             with_reducible rfl
            rotate_left
            ·simp only [Act.put, List.setIfInBounds_toArray, List.set_cons_zero, List.set_cons_succ, i64_w, i32_w]
             rfl
            refine take_ (i := 15) (N := some 79) (v := ?_) (a' := ?_) #[true, true, true, true, true, true, true, true, true, false, false, true, true, true, true, true, true, false, false, false, true, false, false, false, false, false] rfl rfl (take_ofW HT_.out HW_.out (by kernel_rfl)) (fun _ _ _ h => h) (Or.inl ⟨by rfl, ?_⟩) hHeld ?_ ?_
            rotate_left
            ·rintro w' ⟨s0, s1, s2, s3, s4, s5, s6, s7, s8, s9⟩
             go_simp
             with_reducible rfl
            rotate_left
            ·simp only [Act.put, List.setIfInBounds_toArray, List.set_cons_zero, List.set_cons_succ, i64_w, i32_w]
             rfl
            refine take_ (i := 17) (N := some 81) (v := ?_) (a' := ?_) #[true, true, true, true, true, true, true, true, true, false, false, true, true, true, true, true, true, true, false, false, true, false, false, false, false, false] rfl rfl (take_ofW HT_.out HW_.out (by kernel_rfl)) (fun _ _ _ h => h) (Or.inl ⟨by rfl, ?_⟩) hHeld ?_ ?_
            rotate_left
            ·rintro w' ⟨s0, s1, s2, s3, s4, s5, s6, s7, s8, s9⟩
             go_simp
             with_reducible rfl
            rotate_left
            ·simp only [Act.put, List.setIfInBounds_toArray, List.set_cons_zero, List.set_cons_succ, i64_w, i32_w]
             rfl
            (refine one_ (i := 9) (N := some 73) #[true, true, true, true, true, true, true, true, true, true, false, true, true, true, true, true, true, true, false, false, true, false, false, false, false, false] rfl rfl (one_of HT_.out (by kernel_rfl)) (by decide) (fun K hK => ?_));(refine goes_ Try.func27 (by kernel_rfl) rfl #[.int .i64 ((rd_T91 l2 x8_1).f0), .int .i64 (wrap64 (2 + t162))] (by rfl) rfl rfl (by (try simp only [List.map_toArray, List.map_cons, List.map_nil]); first | done | rfl | (simp only [List.length_drop, List.length_take]; rfl)) ?_)
            with_reducible refine (racewaylaw8_pick.calls ((rd_T91 l2 x8_1).f0) (wrap64 (2 + t162)) t173 _ A24.out).mono ?_
            (rintro e w' ⟨rfl, ⟨nd, rfl⟩⟩);(refine ⟨_, rfl, ?_⟩);(refine hK.out _ _ ⟨(blk_cell BK163.out 0).trans rfl, (blk_cell BK163.out 1).trans rfl, (blk_cell BK163.out 2).trans rfl, (blk_cell BK163.out 3).trans rfl, ((HB.out.cell (World.block_lt_of_cell? w _ hw172_0)).trans hw172_0), ((HB.out.cell (World.block_lt_of_cell? w _ hw172_1)).trans hw172_1), ((HB.out.cell (World.block_lt_of_cell? w _ hw172_2)).trans hw172_2), ((HB.out.cell (World.block_lt_of_cell? w _ hw174_0)).trans hw174_0), ((HB.out.cell (World.block_lt_of_cell? w _ hw174_1)).trans hw174_1), ((HB.out.cell (World.block_lt_of_cell? w _ hw174_2)).trans hw174_2)⟩ (fun hHeld => ?_));(clear hK K);(refine norm_ (a' := ?_) ?_ ?_)
            rotate_left
            ·show Act.put _ (some 73) _ = _
             simp only [Act.put, List.setIfInBounds_toArray, List.set_cons_zero, List.set_cons_succ, i64_w, i32_w]
             rfl
            refine pure_ (i := 10) (N := some 74) (v := ?_) (a' := ?_) #[true, true, true, true, true, true, true, true, true, true, true, true, true, true, true, true, true, true, false, false, true, false, false, false, false, false] rfl rfl (any_of HT_.out (by kernel_rfl)) (fun _ _ _ h => h) (Or.inl ⟨by rfl, ?_⟩) ?_ ?_
            rotate_left
            ·intro w'
             go_simp
             with_reducible rfl
            rotate_left
            ·simp only [Act.put, List.setIfInBounds_toArray, List.set_cons_zero, List.set_cons_succ, i64_w, i32_w]
             rfl
            (refine one_ (i := 18) (N := some 82) #[true, true, true, true, true, true, true, true, true, true, true, true, true, true, true, true, true, true, true, false, true, false, false, false, false, false] rfl rfl (one_of HT_.out (by kernel_rfl)) (by decide) (fun K hK => ?_));(refine goes_ Try.func27 (by kernel_rfl) rfl #[.int .i64 ((rd_T91 l2 x8_1).f1), .int .i64 (wrap64 (2 + t162))] (by rfl) rfl rfl (by (try simp only [List.map_toArray, List.map_cons, List.map_nil]); first | done | rfl | (simp only [List.length_drop, List.length_take]; rfl)) ?_)
            with_reducible refine (racewaylaw8_pick.calls ((rd_T91 l2 x8_1).f1) (wrap64 (2 + t162)) t175 _ A25.out).mono ?_
            (rintro e w' ⟨rfl, ⟨nd, rfl⟩⟩);(refine ⟨_, rfl, ?_⟩);(refine hK.out _ _ ⟨(blk_cell BK163.out 0).trans rfl, (blk_cell BK163.out 1).trans rfl, (blk_cell BK163.out 2).trans rfl, (blk_cell BK163.out 3).trans rfl, ((HB.out.cell (World.block_lt_of_cell? w _ hw172_0)).trans hw172_0), ((HB.out.cell (World.block_lt_of_cell? w _ hw172_1)).trans hw172_1), ((HB.out.cell (World.block_lt_of_cell? w _ hw172_2)).trans hw172_2), ((HB.out.cell (World.block_lt_of_cell? w _ hw174_0)).trans hw174_0), ((HB.out.cell (World.block_lt_of_cell? w _ hw174_1)).trans hw174_1), ((HB.out.cell (World.block_lt_of_cell? w _ hw174_2)).trans hw174_2)⟩ (fun hHeld => ?_));(clear hK K);(refine norm_ (a' := ?_) ?_ ?_)
            rotate_left
            ·show Act.put _ (some 82) _ = _
             simp only [Act.put, List.setIfInBounds_toArray, List.set_cons_zero, List.set_cons_succ, i64_w, i32_w]
             rfl
            refine pure_ (i := 19) (N := some 83) (v := ?_) (a' := ?_) #[true, true, true, true, true, true, true, true, true, true, true, true, true, true, true, true, true, true, true, true, true, false, false, false, false, false] rfl rfl (any_of HT_.out (by kernel_rfl)) (fun _ _ _ h => h) (Or.inl ⟨by rfl, ?_⟩) ?_ ?_
            rotate_left
            ·intro w'
             go_simp
             with_reducible rfl
            rotate_left
            ·simp only [Act.put, List.setIfInBounds_toArray, List.set_cons_zero, List.set_cons_succ, i64_w, i32_w]
             rfl
            refine pure_ (i := 21) (N := some 85) (v := ?_) (a' := ?_) #[true, true, true, true, true, true, true, true, true, true, true, true, true, true, true, true, true, true, true, true, true, true, false, false, false, false] rfl rfl (any_of HT_.out (by kernel_rfl)) (fun _ _ _ h => h) (Or.inl ⟨by rfl, ?_⟩) ?_ ?_
            rotate_left
            ·intro w'
             go_simp
             with_reducible rfl
            rotate_left
            ·simp only [Act.put, List.setIfInBounds_toArray, List.set_cons_zero, List.set_cons_succ, i64_w, i32_w]
             rfl
            (refine one_ (i := 22) (N := some 86) #[true, true, true, true, true, true, true, true, true, true, true, true, true, true, true, true, true, true, true, true, true, true, true, false, false, false] rfl rfl (one_of HT_.out (by kernel_rfl)) (by decide) (fun K hK => ?_));(refine value_ (w1 := ?_) (v := ?_) (by rfl) rfl ?_ ?_)
            rotate_left 2
            ·go_simp
             constructor
             ·rfl
             ·rfl
            (refine hK.out _ _ ⟨(blk_cell (blk_alloc BK163.out _) 0).trans rfl, (blk_cell (blk_alloc BK163.out _) 1).trans rfl, (blk_cell (blk_alloc BK163.out _) 2).trans rfl, (blk_cell (blk_alloc BK163.out _) 3).trans rfl, (World.cell?_alloc_lt _ _ _ (World.block_lt_of_cell? _ _ (((HB.out.cell (World.block_lt_of_cell? w _ hw172_0)).trans hw172_0)))).trans (((HB.out.cell (World.block_lt_of_cell? w _ hw172_0)).trans hw172_0)), (World.cell?_alloc_lt _ _ _ (World.block_lt_of_cell? _ _ (((HB.out.cell (World.block_lt_of_cell? w _ hw172_1)).trans hw172_1)))).trans (((HB.out.cell (World.block_lt_of_cell? w _ hw172_1)).trans hw172_1)), (World.cell?_alloc_lt _ _ _ (World.block_lt_of_cell? _ _ (((HB.out.cell (World.block_lt_of_cell? w _ hw172_2)).trans hw172_2)))).trans (((HB.out.cell (World.block_lt_of_cell? w _ hw172_2)).trans hw172_2)), (World.cell?_alloc_lt _ _ _ (World.block_lt_of_cell? _ _ (((HB.out.cell (World.block_lt_of_cell? w _ hw174_0)).trans hw174_0)))).trans (((HB.out.cell (World.block_lt_of_cell? w _ hw174_0)).trans hw174_0)), (World.cell?_alloc_lt _ _ _ (World.block_lt_of_cell? _ _ (((HB.out.cell (World.block_lt_of_cell? w _ hw174_1)).trans hw174_1)))).trans (((HB.out.cell (World.block_lt_of_cell? w _ hw174_1)).trans hw174_1)), (World.cell?_alloc_lt _ _ _ (World.block_lt_of_cell? _ _ (((HB.out.cell (World.block_lt_of_cell? w _ hw174_2)).trans hw174_2)))).trans (((HB.out.cell (World.block_lt_of_cell? w _ hw174_2)).trans hw174_2))⟩ (fun hHeld => ?_));(clear hK K);(refine norm_ (a' := ?_) ?_ ?_)
            rotate_left
            ·show Act.put _ (some 86) _ = _
             simp only [Act.put, List.setIfInBounds_toArray, List.set_cons_zero, List.set_cons_succ, i64_w, i32_w]
             rfl
            (refine one_ (i := 23) (N := some 87) #[true, true, true, true, true, true, true, true, true, true, true, true, true, true, true, true, true, true, true, true, true, true, true, true, false, false] rfl rfl (one_of HT_.out (by kernel_rfl)) (by decide) (fun K hK => ?_));(refine Kd.R_append_step k30 (w0 := w) w.heap.size (by rfl) (.tmp 65) (.tmp 86) 24 30 (.agg #[(.int .i64 0), (.int .i64 0), (.int .i64 0)]) 24 rfl Try.underlying24 info30 rfl (by decide) (by omega) u164003 x164003_1 (⟨wrap64 (1 + t173), wrap64 (1 + t175), t171⟩ : S30) [.int .i64 (wrap64 (1 + t173)), .int .i64 (wrap64 (1 + t175)), .int .i64 t171] (fun _ => True) (fun _ => False) rfl rfl ?aP (fun _ hk => hk.elim) ?aF ?aO ?aB ?aS ?aL ?_)
            (case aP => exact k30_mkM _ _ _ (⟨wrap64 (1 + t173), wrap64 (1 + t175), t171⟩ : S30))
            (case aB => exact (by repeat (first | (with_reducible first | exact HB.out | apply below_alloc | apply pw_below_drewN | apply below_drew1 | refine below_set ?_ GE161.out | refine below_set ?_ GE163.out) | exact HB.out)))
            (case aF => exact (fun _ _ => trivial))
            (case aO => exact (by (with_reducible repeat first | apply Kd.R_alloc | apply Kd.R_drewN | apply Kd.R_drew); exact HO_164003.out))
            (case aS => exact (below_size (by repeat (first | (with_reducible first | exact HB.out | apply below_alloc | apply pw_below_drewN | apply below_drew1 | refine below_set ?_ GE161.out | refine below_set ?_ GE163.out) | exact HB.out))))
            (case aL => have := LMc26.out; omega)
            (intro v177 w28 ho hb hg hat);(rw [← Ny176.out] at ho);(have n0_ := Aside0.mk (blk_grown (g := gb161) (o := .cells #[.int .i64 0, .int .i64 0, .int .i64 0, .slice none 0 0] 26 (0, 0)) (by (with_reducible repeat first | refine blk_drewN ?_ _ | refine blk_drew ?_ | refine blk_alloc ?_ _); exact BK161.out) hg (Kd.R_ne HO_164003.out BK161.out (by decide))));(have n1_ := Aside0.mk (blk_grown (g := gb163) (o := .cells #[.int .i64 (wrap64 (2 + t162)), .int .i64 (wrap64 (1 + t164)), .int .i64 (wrap64 (1 + (Int.tmod (wrap64 ((wrap64 (1 + t164)) + t165)) (wrap64 (2 + t162))))), u164003] 26 (0, 0)) (by (with_reducible repeat first | refine blk_drewN ?_ _ | refine blk_drew ?_ | refine blk_alloc ?_ _); exact BK163.out) hg (Kd.R_ne HO_164003.out BK163.out (by decide))));(have n2_ := Aside0.mk (hb));(have n3_ := Aside0.mk (ho));(clear BK161);(clear BK163);(clear HB);(clear HO_164003);(have BK161 := n0_);(have BK163 := n1_);(have HB := n2_);(have HO178 := n3_);(clear n0_ n1_ n2_ n3_);(clear ho hb hg hat);(obtain ⟨Ao29, co29, eo29⟩ := Kd.R_slice HO178.out);((first | subst eo29 | (injection eo29 with f1_ f2_ f3_; have f4_ := f1_.symm; have f5_ := f3_.symm; clear f1_ f2_ f3_; subst f4_; subst f5_)));(refine hK.out _ _ ⟨(blk_cell BK163.out 0).trans rfl, (blk_cell BK163.out 1).trans rfl, (blk_cell BK163.out 2).trans rfl, (blk_cell BK163.out 3).trans rfl, ((HB.out.cell (World.block_lt_of_cell? w _ hw172_0)).trans hw172_0), ((HB.out.cell (World.block_lt_of_cell? w _ hw172_1)).trans hw172_1), ((HB.out.cell (World.block_lt_of_cell? w _ hw172_2)).trans hw172_2), ((HB.out.cell (World.block_lt_of_cell? w _ hw174_0)).trans hw174_0), ((HB.out.cell (World.block_lt_of_cell? w _ hw174_1)).trans hw174_1), ((HB.out.cell (World.block_lt_of_cell? w _ hw174_2)).trans hw174_2)⟩ (fun hHeld => ?_));(clear hK K);(refine norm_ (a' := ?_) ?_ ?_)
            rotate_left
            ·show Act.put _ (some 87) _ = _
             simp only [Act.put, List.setIfInBounds_toArray, List.set_cons_zero, List.set_cons_succ, i64_w, i32_w]
             rfl
            refine pure_ (i := 24) (N := some 88) (v := ?_) (a' := ?_) #[true, true, true, true, true, true, true, true, true, true, true, true, true, true, true, true, true, true, true, true, true, true, true, true, true, false] rfl rfl (any_of HT_.out (by kernel_rfl)) (fun _ _ _ h => h) (Or.inl ⟨by rfl, ?_⟩) ?_ ?_
            rotate_left
            ·intro w'
             go_simp
             with_reducible rfl
            rotate_left
            ·simp only [Act.put, List.setIfInBounds_toArray, List.set_cons_zero, List.set_cons_succ, i64_w, i32_w]
             rfl
            (refine last_ (i := 25) (N := none) #[true, true, true, true, true, true, true, true, true, true, true, true, true, true, true, true, true, true, true, true, true, true, true, true, true, true] rfl rfl (one_of HT_.out (by kernel_rfl)) (by decide) (fun K hK => ?_));(have hs30 : w28.cell? ⟨gb163, 3, none⟩ = some (u164003) := (blk_cell BK163.out 3).trans rfl);(have hfs30 := blk_frozen BK163.out 3);(have hns30_0 := NB161_163.out);(have hms30_0 := NB163_161.out);(refine skip_ (w1 := ?_) (by rfl) rfl ?_ ?_)
            rotate_left
            ·go_simp
             rfl
            (refine hK.out _ _ ?_);(clear hK K);(refine done_ (done_of HT_.out (by kernel_rfl)) ?_)
            try go_wp2
            go_roundg kj14
            case measure => have := HK1.out; have := HJ14.out; omega
            case rel => exact ⟨(wrap64 (x8_1 + 1)), (y176), (.slice Ao29 y176.length co29), (by first | rfl | (simp; done) | (simp [*]; done)), H', ⟨by have := HK1.out; have := HJ14.out; omega⟩, ⟨by (with_reducible repeat first | apply Kd.R_alloc | apply Kd.R_drewN | apply Kd.R_drew); exact Kd.R_mono (Kd.R_far (p := ⟨gb163, 3, none⟩) (Kd.R_types HO178.out BK163.out (by decide)) (fun _ hk => hk.2) (.slice Ao29 y176.length co29)) (fun _ hk => trivial)⟩, ⟨by (with_reducible repeat first | refine blk_drewN ?_ _ | refine blk_drew ?_ | refine blk_alloc ?_ _); refine blk_far ?_ NB161_163.out _; (with_reducible repeat first | refine blk_drewN ?_ _ | refine blk_drew ?_ | refine blk_alloc ?_ _); exact BK161.out⟩, ⟨by (with_reducible repeat first | refine blk_drewN ?_ _ | refine blk_drew ?_ | refine blk_alloc ?_ _); refine blk_put (cs := #[.int .i64 (wrap64 (2 + t162)), .int .i64 (wrap64 (1 + t164)), .int .i64 (wrap64 (1 + (Int.tmod (wrap64 ((wrap64 (1 + t164)) + t165)) (wrap64 (2 + t162))))), u164003]) ?_ 3 _ rfl; (with_reducible repeat first | refine blk_drewN ?_ _ | refine blk_drew ?_ | refine blk_alloc ?_ _); exact BK163.out⟩, ⟨by repeat (first | (with_reducible first | exact HB.out | apply below_alloc | apply pw_below_drewN | apply below_drew1 | refine below_set ?_ GE161.out | refine below_set ?_ GE163.out) | exact HB.out)⟩⟩
          ·(rw [if_neg c26] at H);(exact absurd H (by simp))
         ·(rw [if_neg c22] at H);(have c22b0 : (t169 == 0) = false := beq_eq_false_iff_ne.mpr c22);(have c22b1 : (t169 != 0) = true := bne_iff_ne.mpr c22);(replace H := Option.bind_eq_some_iff.mp H);(obtain ⟨t180, A310, H⟩ := H);(replace H : ((racewaylaw8_pick.f ((rd_T91 l2 x8_1).f1) (wrap64 (2 + t162))).bind fun t182 => (if x164003_1.length < 5864062014805 then (racewaylaw8_made.l0 kj14 l2 (wrap64 (x8_1 + 1)) (wrap64 (2 + t162)) (wrap64 (1 + t164)) (wrap64 (1 + (Int.tmod (wrap64 ((wrap64 (1 + t164)) + t165)) (wrap64 (2 + t162))))) (x164003_1 ++ [(⟨wrap64 (1 + t180), wrap64 (1 + t182), t167⟩ : S30)])) else (none))) = some (r1, r2, r3, r4) := H);(have A31 := Aside0.mk A310);(clear A310);(replace H := Option.bind_eq_some_iff.mp H);(obtain ⟨t182, A320, H⟩ := H);(replace H : (if x164003_1.length < 5864062014805 then (racewaylaw8_made.l0 kj14 l2 (wrap64 (x8_1 + 1)) (wrap64 (2 + t162)) (wrap64 (1 + t164)) (wrap64 (1 + (Int.tmod (wrap64 ((wrap64 (1 + t164)) + t165)) (wrap64 (2 + t162))))) (x164003_1 ++ [(⟨wrap64 (1 + t180), wrap64 (1 + t182), t167⟩ : S30)])) else (none)) = some (r1, r2, r3, r4) := H);(have A32 := Aside0.mk A320);(clear A320)
          by_cases c33 : x164003_1.length < 5864062014805
          ·(rw [if_pos c33] at H);(have LMc33 := Aside0.mk c33);(clear c33);(obtain ⟨y183, hy183⟩ : ∃ y_ : List (S30), y_ = (x164003_1 ++ [(⟨wrap64 (1 + t180), wrap64 (1 + t182), t167⟩ : S30)]) := ⟨_, rfl⟩);(replace H : (racewaylaw8_made.l0 kj14 l2 (wrap64 (x8_1 + 1)) (wrap64 (2 + t162)) (wrap64 (1 + t164)) (wrap64 (1 + (Int.tmod (wrap64 ((wrap64 (1 + t164)) + t165)) (wrap64 (2 + t162))))) y183) = some (r1, r2, r3, r4) := by first | (rw [hy183]; with_reducible exact H) | (have H2_ := (Option.bind_some _ _).symm.trans H; rw [hy183]; with_reducible exact H2_) | (have H2_ := (Option.bind_some _ _).symm.trans H; with_reducible exact H2_) | with_reducible exact H | (rw [hy183]; exact H) | exact H);(have Ny183 := Aside0.mk hy183);(clear hy183)
           as_aux_lemma =>
            (have H' := Aside0.mk H);(clear H);(have p166 : 0 ≤ (x8_1 : Int) := of_decide_eq_true (by first | (with_reducible assumption) | assumption));(have q166 : x8_1 < (l2.length : Int) := of_decide_eq_true (by first | (with_reducible assumption) | assumption));(obtain ⟨ad166, e166, hx166_0, hx166_1, hx166_2⟩ := at_T91 HR2.out x8_1 p166 q166);(cases e166);(replace hx166_0 := (HB.out.cell (World.block_lt_of_cell? w _ hx166_0)).trans hx166_0);(replace hx166_1 := (HB.out.cell (World.block_lt_of_cell? w _ hx166_1)).trans hx166_1);(replace hx166_2 := (HB.out.cell (World.block_lt_of_cell? w _ hx166_2)).trans hx166_2);(replace p166 := eq_true p166);(replace q166 := eq_true q166)
            try go_wp2_with (first | ((with_reducible refine gate_callee (f := 27) rfl ?_); refine goesL_ (some 49) rfl rfl Try.func27 (by kernel_rfl) rfl #[.int .i64 ((rd_T91 l2 x8_1).f2), .int .i64 21] rfl (by (try simp only [List.map_toArray, List.map_cons, List.map_nil]); first | done | rfl | (simp only [List.length_drop, List.length_take]; rfl)) ?_; (with_reducible refine (racewaylaw8_pick.calls ((rd_T91 l2 x8_1).f2) 21 t167 _ A20.out).mono ?_); rintro e w' ⟨rfl, ⟨nd, rfl⟩⟩; refine ⟨_, rfl, ?_⟩; (try (rw [drewN_self wc]; generalize hq_ : World.drewN wc _ = wc; have n0_ : Aside0 (Kd.R k30 30 wc w.heap.size (fun _ => True) u164003 x164003_1) := ⟨by rw [← hq_]; exact (by (with_reducible repeat first | apply Kd.R_alloc | apply Kd.R_drewN | apply Kd.R_drew); exact HO_164003.out)⟩; have n1_ : Aside0 (wc.heap[gb161]? = some (.cells #[.int .i64 0, .int .i64 0, .int .i64 0, .slice none 0 0] 26 (0, 0))) := ⟨by rw [← hq_]; exact (by (with_reducible repeat first | refine blk_drewN ?_ _ | refine blk_drew ?_ | refine blk_alloc ?_ _); exact BK161.out)⟩; have n2_ : Aside0 (wc.heap[gb163]? = some (.cells #[.int .i64 (wrap64 (2 + t162)), .int .i64 (wrap64 (1 + t164)), .int .i64 (wrap64 (1 + (Int.tmod (wrap64 ((wrap64 (1 + t164)) + t165)) (wrap64 (2 + t162))))), u164003] 26 (0, 0))) := ⟨by rw [← hq_]; exact (by (with_reducible repeat first | refine blk_drewN ?_ _ | refine blk_drew ?_ | refine blk_alloc ?_ _); exact BK163.out)⟩; have n3_ : Aside0 (Below w.heap.size w wc) := ⟨by rw [← hq_]; exact (by repeat (first | (with_reducible first | exact HB.out | apply below_alloc | apply pw_below_drewN | apply below_drew1 | refine below_set ?_ GE161.out | refine below_set ?_ GE163.out) | exact HB.out))⟩; clear HO_164003 BK161 BK163 HB hq_; have HO_164003 := n0_; have BK161 := n1_; have BK163 := n2_; have HB := n3_; clear n0_ n1_ n2_ n3_; have hcqBK161_0 : wc.cell? ⟨gb161, 0, none⟩ = some (.int .i64 0) := (blk_cell BK161.out 0).trans rfl; have hfqBK161_0 := blk_frozen BK161.out 0; have hcqBK161_1 : wc.cell? ⟨gb161, 1, none⟩ = some (.int .i64 0) := (blk_cell BK161.out 1).trans rfl; have hfqBK161_1 := blk_frozen BK161.out 1; have hcqBK161_2 : wc.cell? ⟨gb161, 2, none⟩ = some (.int .i64 0) := (blk_cell BK161.out 2).trans rfl; have hfqBK161_2 := blk_frozen BK161.out 2; have hcqBK161_3 : wc.cell? ⟨gb161, 3, none⟩ = some (.slice none 0 0) := (blk_cell BK161.out 3).trans rfl; have hfqBK161_3 := blk_frozen BK161.out 3; have hcqBK163_0 : wc.cell? ⟨gb163, 0, none⟩ = some (.int .i64 (wrap64 (2 + t162))) := (blk_cell BK163.out 0).trans rfl; have hfqBK163_0 := blk_frozen BK163.out 0; have hcqBK163_1 : wc.cell? ⟨gb163, 1, none⟩ = some (.int .i64 (wrap64 (1 + t164))) := (blk_cell BK163.out 1).trans rfl; have hfqBK163_1 := blk_frozen BK163.out 1; have hcqBK163_2 : wc.cell? ⟨gb163, 2, none⟩ = some (.int .i64 (wrap64 (1 + (Int.tmod (wrap64 ((wrap64 (1 + t164)) + t165)) (wrap64 (2 + t162)))))) := (blk_cell BK163.out 2).trans rfl; have hfqBK163_2 := blk_frozen BK163.out 2; have hcqBK163_3 : wc.cell? ⟨gb163, 3, none⟩ = some (u164003) := (blk_cell BK163.out 3).trans rfl; have hfqBK163_3 := blk_frozen BK163.out 3)); have p168 : 0 ≤ (x8_1 : Int) := of_decide_eq_true (by first | (with_reducible assumption) | assumption); have q168 : x8_1 < (l2.length : Int) := of_decide_eq_true (by first | (with_reducible assumption) | assumption); obtain ⟨ad168, e168, hx168_0, hx168_1, hx168_2⟩ := at_T91 HR2.out x8_1 p168 q168; obtain rfl : ad166 = ad168 := (by injection e168); replace hx168_0 := (HB.out.cell (World.block_lt_of_cell? w _ hx168_0)).trans hx168_0; replace hx168_1 := (HB.out.cell (World.block_lt_of_cell? w _ hx168_1)).trans hx168_1; replace hx168_2 := (HB.out.cell (World.block_lt_of_cell? w _ hx168_2)).trans hx168_2; replace p168 := eq_true p168; replace q168 := eq_true q168) | ((with_reducible refine gate_callee (f := 27) rfl ?_); refine goesL_ (some 56) rfl rfl Try.func27 (by kernel_rfl) rfl #[.int .i64 (wrap64 (Int.tdiv ((rd_T91 l2 x8_1).f2) 21)), .int .i64 9] rfl (by (try simp only [List.map_toArray, List.map_cons, List.map_nil]); first | done | rfl | (simp only [List.length_drop, List.length_take]; rfl)) ?_; (with_reducible refine (racewaylaw8_pick.calls (wrap64 (Int.tdiv ((rd_T91 l2 x8_1).f2) 21)) 9 t169 _ A21.out).mono ?_); rintro e w' ⟨rfl, ⟨nd, rfl⟩⟩; refine ⟨_, rfl, ?_⟩; (try (rw [drewN_self wc]; generalize hq_ : World.drewN wc _ = wc; have n0_ : Aside0 (Kd.R k30 30 wc w.heap.size (fun _ => True) u164003 x164003_1) := ⟨by rw [← hq_]; exact (by (with_reducible repeat first | apply Kd.R_alloc | apply Kd.R_drewN | apply Kd.R_drew); exact HO_164003.out)⟩; have n1_ : Aside0 (wc.heap[gb161]? = some (.cells #[.int .i64 0, .int .i64 0, .int .i64 0, .slice none 0 0] 26 (0, 0))) := ⟨by rw [← hq_]; exact (by (with_reducible repeat first | refine blk_drewN ?_ _ | refine blk_drew ?_ | refine blk_alloc ?_ _); exact BK161.out)⟩; have n2_ : Aside0 (wc.heap[gb163]? = some (.cells #[.int .i64 (wrap64 (2 + t162)), .int .i64 (wrap64 (1 + t164)), .int .i64 (wrap64 (1 + (Int.tmod (wrap64 ((wrap64 (1 + t164)) + t165)) (wrap64 (2 + t162))))), u164003] 26 (0, 0))) := ⟨by rw [← hq_]; exact (by (with_reducible repeat first | refine blk_drewN ?_ _ | refine blk_drew ?_ | refine blk_alloc ?_ _); exact BK163.out)⟩; have n3_ : Aside0 (Below w.heap.size w wc) := ⟨by rw [← hq_]; exact (by repeat (first | (with_reducible first | exact HB.out | apply below_alloc | apply pw_below_drewN | apply below_drew1 | refine below_set ?_ GE161.out | refine below_set ?_ GE163.out) | exact HB.out))⟩; clear HO_164003 BK161 BK163 HB hq_; have HO_164003 := n0_; have BK161 := n1_; have BK163 := n2_; have HB := n3_; clear n0_ n1_ n2_ n3_; have hcqBK161_0 : wc.cell? ⟨gb161, 0, none⟩ = some (.int .i64 0) := (blk_cell BK161.out 0).trans rfl; have hfqBK161_0 := blk_frozen BK161.out 0; have hcqBK161_1 : wc.cell? ⟨gb161, 1, none⟩ = some (.int .i64 0) := (blk_cell BK161.out 1).trans rfl; have hfqBK161_1 := blk_frozen BK161.out 1; have hcqBK161_2 : wc.cell? ⟨gb161, 2, none⟩ = some (.int .i64 0) := (blk_cell BK161.out 2).trans rfl; have hfqBK161_2 := blk_frozen BK161.out 2; have hcqBK161_3 : wc.cell? ⟨gb161, 3, none⟩ = some (.slice none 0 0) := (blk_cell BK161.out 3).trans rfl; have hfqBK161_3 := blk_frozen BK161.out 3; have hcqBK163_0 : wc.cell? ⟨gb163, 0, none⟩ = some (.int .i64 (wrap64 (2 + t162))) := (blk_cell BK163.out 0).trans rfl; have hfqBK163_0 := blk_frozen BK163.out 0; have hcqBK163_1 : wc.cell? ⟨gb163, 1, none⟩ = some (.int .i64 (wrap64 (1 + t164))) := (blk_cell BK163.out 1).trans rfl; have hfqBK163_1 := blk_frozen BK163.out 1; have hcqBK163_2 : wc.cell? ⟨gb163, 2, none⟩ = some (.int .i64 (wrap64 (1 + (Int.tmod (wrap64 ((wrap64 (1 + t164)) + t165)) (wrap64 (2 + t162)))))) := (blk_cell BK163.out 2).trans rfl; have hfqBK163_2 := blk_frozen BK163.out 2; have hcqBK163_3 : wc.cell? ⟨gb163, 3, none⟩ = some (u164003) := (blk_cell BK163.out 3).trans rfl; have hfqBK163_3 := blk_frozen BK163.out 3))))
            (have n0_ := Aside0.mk (Kd.R_drew HO_164003.out));(have n1_ := Aside0.mk (blk_drew BK161.out));(have n2_ := Aside0.mk (blk_drew BK163.out));(have n3_ := Aside0.mk (below_drew1 HB.out));(clear HO_164003);(clear BK161);(clear BK163);(clear HB);(have HO_164003 := n0_);(have BK161 := n1_);(have BK163 := n2_);(have HB := n3_);(clear n0_ n1_ n2_ n3_);(have p179 : 0 ≤ (x8_1 : Int) := of_decide_eq_true (by first | (with_reducible assumption) | assumption));(have q179 : x8_1 < (l2.length : Int) := of_decide_eq_true (by first | (with_reducible assumption) | assumption));(obtain ⟨ad179, e179, hx179_0, hx179_1, hx179_2⟩ := at_T91 HR2.out x8_1 p179 q179);(have hw179_2 := hx179_2);(have hw179_1 := hx179_1);(have hw179_0 := hx179_0);(obtain rfl : ad166 = ad179 := (by injection e179));(replace hx179_0 := (HB.out.cell (World.block_lt_of_cell? w _ hx179_0)).trans hx179_0);(replace hx179_1 := (HB.out.cell (World.block_lt_of_cell? w _ hx179_1)).trans hx179_1);(replace hx179_2 := (HB.out.cell (World.block_lt_of_cell? w _ hx179_2)).trans hx179_2);(replace p179 := eq_true p179);(replace q179 := eq_true q179);(have p181 : 0 ≤ (x8_1 : Int) := of_decide_eq_true (by first | (with_reducible assumption) | assumption));(have q181 : x8_1 < (l2.length : Int) := of_decide_eq_true (by first | (with_reducible assumption) | assumption));(obtain ⟨ad181, e181, hx181_0, hx181_1, hx181_2⟩ := at_T91 HR2.out x8_1 p181 q181);(have hw181_2 := hx181_2);(have hw181_1 := hx181_1);(have hw181_0 := hx181_0);(obtain rfl : ad166 = ad181 := (by injection e181));(replace hx181_0 := (HB.out.cell (World.block_lt_of_cell? w _ hx181_0)).trans hx181_0);(replace hx181_1 := (HB.out.cell (World.block_lt_of_cell? w _ hx181_1)).trans hx181_1);(replace hx181_2 := (HB.out.cell (World.block_lt_of_cell? w _ hx181_2)).trans hx181_2);(replace p181 := eq_true p181);(replace q181 := eq_true q181);(refine start_ (n := 26) (S := fun w' => w'.cell? ⟨gb163, 0, none⟩ = some (.int .i64 (wrap64 (2 + t162))) ∧ w'.cell? ⟨gb163, 1, none⟩ = some (.int .i64 (wrap64 (1 + t164))) ∧ w'.cell? ⟨gb163, 2, none⟩ = some (.int .i64 (wrap64 (1 + (Int.tmod (wrap64 ((wrap64 (1 + t164)) + t165)) (wrap64 (2 + t162)))))) ∧ w'.cell? ⟨gb163, 3, none⟩ = some (u164003) ∧ w'.cell? (ad166.add ((x8_1).toNat * 3)) = some (.int .i64 ((rd_T91 l2 x8_1).f0)) ∧ w'.cell? ⟨(ad166.add ((x8_1).toNat * 3)).block, (ad166.add ((x8_1).toNat * 3)).off + 1, none⟩ = some (.int .i64 ((rd_T91 l2 x8_1).f1)) ∧ w'.cell? ⟨(ad166.add ((x8_1).toNat * 3)).block, (ad166.add ((x8_1).toNat * 3)).off + 2, none⟩ = some (.int .i64 ((rd_T91 l2 x8_1).f2)) ∧ w'.cell? (ad166.add ((x8_1).toNat * 3)) = some (.int .i64 ((rd_T91 l2 x8_1).f0)) ∧ w'.cell? ⟨(ad166.add ((x8_1).toNat * 3)).block, (ad166.add ((x8_1).toNat * 3)).off + 1, none⟩ = some (.int .i64 ((rd_T91 l2 x8_1).f1)) ∧ w'.cell? ⟨(ad166.add ((x8_1).toNat * 3)).block, (ad166.add ((x8_1).toNat * 3)).off + 2, none⟩ = some (.int .i64 ((rd_T91 l2 x8_1).f2))) (ds := [25]) #[false, false, false, false, false, false, false, false, false, false, false, false, false, false, false, false, false, false, false, false, false, false, false, false, false, false] (by kernel_rfl) rfl rfl ⟨(blk_cell BK163.out 0).trans rfl, (blk_cell BK163.out 1).trans rfl, (blk_cell BK163.out 2).trans rfl, (blk_cell BK163.out 3).trans rfl, ((HB.out.cell (World.block_lt_of_cell? w _ hw179_0)).trans hw179_0), ((HB.out.cell (World.block_lt_of_cell? w _ hw179_1)).trans hw179_1), ((HB.out.cell (World.block_lt_of_cell? w _ hw179_2)).trans hw179_2), ((HB.out.cell (World.block_lt_of_cell? w _ hw181_0)).trans hw181_0), ((HB.out.cell (World.block_lt_of_cell? w _ hw181_1)).trans hw181_1), ((HB.out.cell (World.block_lt_of_cell? w _ hw181_2)).trans hw181_2)⟩ (fun hHeld => ?_); refine with_tabW racewaylaw8_made.tab10 racewaylaw8_made.bits10 (fun HT_ HW_ => ?_));(generalize wc.drew = w34 at HO_164003 BK161 BK163 HB hx179_0 hx179_1 hx179_2 hx181_0 hx181_1 hx181_2 hHeld ⊢);(refine pure_ (i := 0) (N := some 64) (v := ?_) (a' := ?_) #[true, false, false, false, false, false, false, false, false, false, false, false, false, false, false, false, false, false, false, false, false, false, false, false, false, false] rfl rfl (any_of HT_.out (by kernel_rfl)) (fun _ _ _ h => h) (Or.inl ⟨by rfl, ?_⟩) ?_ ?_)
            rotate_left
            ·intro w'
             go_simp
             with_reducible rfl
            rotate_left
            ·simp only [Act.put, List.setIfInBounds_toArray, List.set_cons_zero, List.set_cons_succ, i64_w, i32_w]
             rfl
            refine pure_ (i := 2) (N := some 66) (v := ?_) (a' := ?_) #[true, false, true, false, false, false, false, false, false, false, false, false, false, false, false, false, false, false, false, false, false, false, false, false, false, false] rfl rfl (any_of HT_.out (by kernel_rfl)) (fun _ _ _ h => h) (Or.inl ⟨by rfl, ?_⟩) ?_ ?_
            rotate_left
            ·intro w'
             go_simp
             with_reducible rfl
            rotate_left
            ·simp only [Act.put, List.setIfInBounds_toArray, List.set_cons_zero, List.set_cons_succ, i64_w, i32_w]
             rfl
            refine pure_ (i := 3) (N := some 67) (v := ?_) (a' := ?_) #[true, false, true, true, false, false, false, false, false, false, false, false, false, false, false, false, false, false, false, false, false, false, false, false, false, false] rfl rfl (any_of HT_.out (by kernel_rfl)) (fun _ _ _ h => h) (Or.inl ⟨by rfl, ?_⟩) ?_ ?_
            rotate_left
            ·intro w'
             go_simp
             with_reducible rfl
            rotate_left
            ·simp only [Act.put, List.setIfInBounds_toArray, List.set_cons_zero, List.set_cons_succ, i64_w, i32_w]
             rfl
            refine pure_ (i := 4) (N := some 68) (v := ?_) (a' := ?_) #[true, false, true, true, true, false, false, false, false, false, false, false, false, false, false, false, false, false, false, false, false, false, false, false, false, false] rfl rfl (any_of HT_.out (by kernel_rfl)) (fun _ _ _ h => h) (Or.inl ⟨by rfl, ?_⟩) ?_ ?_
            rotate_left
            ·intro w'
             go_simp
             with_reducible rfl
            rotate_left
            ·simp only [Act.put, List.setIfInBounds_toArray, List.set_cons_zero, List.set_cons_succ, i64_w, i32_w]
             rfl
            refine pure_ (i := 5) (N := some 69) (v := ?_) (a' := ?_) #[true, false, true, true, true, true, false, false, false, false, false, false, false, false, false, false, false, false, false, false, false, false, false, false, false, false] rfl rfl (any_of HT_.out (by kernel_rfl)) (fun _ _ _ h => h) (Or.inl ⟨by rfl, ?_⟩) ?_ ?_
            rotate_left
            ·intro w'
             go_simp
             with_reducible rfl
            rotate_left
            ·simp only [Act.put, List.setIfInBounds_toArray, List.set_cons_zero, List.set_cons_succ, i64_w, i32_w]
             rfl
            refine pure_ (i := 7) (N := some 71) (v := ?_) (a' := ?_) #[true, false, true, true, true, true, false, true, false, false, false, false, false, false, false, false, false, false, false, false, false, false, false, false, false, false] rfl rfl (any_of HT_.out (by kernel_rfl)) (fun _ _ _ h => h) (Or.inl ⟨by rfl, ?_⟩) ?_ ?_
            rotate_left
            ·intro w'
             go_simp
             with_reducible rfl
            rotate_left
            ·simp only [Act.put, List.setIfInBounds_toArray, List.set_cons_zero, List.set_cons_succ, i64_w, i32_w]
             rfl
            refine pure_ (i := 11) (N := some 75) (v := ?_) (a' := ?_) #[true, false, true, true, true, true, false, true, false, false, false, true, false, false, false, false, false, false, false, false, false, false, false, false, false, false] rfl rfl (any_of HT_.out (by kernel_rfl)) (fun _ _ _ h => h) (Or.inl ⟨by rfl, ?_⟩) ?_ ?_
            rotate_left
            ·intro w'
             go_simp
             with_reducible rfl
            rotate_left
            ·simp only [Act.put, List.setIfInBounds_toArray, List.set_cons_zero, List.set_cons_succ, i64_w, i32_w]
             rfl
            refine pure_ (i := 12) (N := some 76) (v := ?_) (a' := ?_) #[true, false, true, true, true, true, false, true, false, false, false, true, true, false, false, false, false, false, false, false, false, false, false, false, false, false] rfl rfl (any_of HT_.out (by kernel_rfl)) (fun _ _ _ h => h) (Or.inl ⟨by rfl, ?_⟩) ?_ ?_
            rotate_left
            ·intro w'
             go_simp
             with_reducible rfl
            rotate_left
            ·simp only [Act.put, List.setIfInBounds_toArray, List.set_cons_zero, List.set_cons_succ, i64_w, i32_w]
             rfl
            refine pure_ (i := 13) (N := some 77) (v := ?_) (a' := ?_) #[true, false, true, true, true, true, false, true, false, false, false, true, true, true, false, false, false, false, false, false, false, false, false, false, false, false] rfl rfl (any_of HT_.out (by kernel_rfl)) (fun _ _ _ h => h) (Or.inl ⟨by rfl, ?_⟩) ?_ ?_
            rotate_left
            ·intro w'
             go_simp
             with_reducible rfl
            rotate_left
            ·simp only [Act.put, List.setIfInBounds_toArray, List.set_cons_zero, List.set_cons_succ, i64_w, i32_w]
             rfl
            refine pure_ (i := 14) (N := some 78) (v := ?_) (a' := ?_) #[true, false, true, true, true, true, false, true, false, false, false, true, true, true, true, false, false, false, false, false, false, false, false, false, false, false] rfl rfl (any_of HT_.out (by kernel_rfl)) (fun _ _ _ h => h) (Or.inl ⟨by rfl, ?_⟩) ?_ ?_
            rotate_left
            ·intro w'
             go_simp
             with_reducible rfl
            rotate_left
            ·simp only [Act.put, List.setIfInBounds_toArray, List.set_cons_zero, List.set_cons_succ, i64_w, i32_w]
             rfl
            refine pure_ (i := 16) (N := some 80) (v := ?_) (a' := ?_) #[true, false, true, true, true, true, false, true, false, false, false, true, true, true, true, false, true, false, false, false, false, false, false, false, false, false] rfl rfl (any_of HT_.out (by kernel_rfl)) (fun _ _ _ h => h) (Or.inl ⟨by rfl, ?_⟩) ?_ ?_
            rotate_left
            ·intro w'
             go_simp
             with_reducible rfl
            rotate_left
            ·simp only [Act.put, List.setIfInBounds_toArray, List.set_cons_zero, List.set_cons_succ, i64_w, i32_w]
             rfl
            refine pure_ (i := 20) (N := some 84) (v := ?_) (a' := ?_) #[true, false, true, true, true, true, false, true, false, false, false, true, true, true, true, false, true, false, false, false, true, false, false, false, false, false] rfl rfl (any_of HT_.out (by kernel_rfl)) (fun _ _ _ h => h) (Or.inl ⟨by rfl, ?_⟩) ?_ ?_
            rotate_left
            ·intro w'
             go_simp
             with_reducible rfl
            rotate_left
            ·simp only [Act.put, List.setIfInBounds_toArray, List.set_cons_zero, List.set_cons_succ, i64_w, i32_w]
             rfl
            refine take_ (i := 1) (N := some 65) (v := ?_) (a' := ?_) #[true, true, true, true, true, true, false, true, false, false, false, true, true, true, true, false, true, false, false, false, true, false, false, false, false, false] rfl rfl (take_ofW HT_.out HW_.out (by kernel_rfl)) (fun _ _ _ h => h) (Or.inl ⟨by rfl, ?_⟩) hHeld ?_ ?_
            rotate_left
            ·rintro w' ⟨s0, s1, s2, s3, s4, s5, s6, s7, s8, s9⟩
             go_simp
             with_reducible rfl
            rotate_left
            ·simp only [Act.put, List.setIfInBounds_toArray, List.set_cons_zero, List.set_cons_succ, i64_w, i32_w]
             rfl
            refine take_ (i := 6) (N := some 70) (v := ?_) (a' := ?_) #[true, true, true, true, true, true, true, true, false, false, false, true, true, true, true, false, true, false, false, false, true, false, false, false, false, false] rfl rfl (take_ofW HT_.out HW_.out (by kernel_rfl)) (fun _ _ _ h => h) (Or.inl ⟨by rfl, ?_⟩) hHeld ?_ ?_
            rotate_left
            ·rintro w' ⟨s0, s1, s2, s3, s4, s5, s6, s7, s8, s9⟩
             go_simp
             with_reducible rfl
            rotate_left
            ·simp only [Act.put, List.setIfInBounds_toArray, List.set_cons_zero, List.set_cons_succ, i64_w, i32_w]
             rfl
            refine take_ (i := 8) (N := some 72) (v := ?_) (a' := ?_) #[true, true, true, true, true, true, true, true, true, false, false, true, true, true, true, false, true, false, false, false, true, false, false, false, false, false] rfl rfl (take_ofW HT_.out HW_.out (by kernel_rfl)) (fun _ _ _ h => h) (Or.inl ⟨by rfl, ?_⟩) hHeld ?_ ?_
            rotate_left
            ·rintro w' ⟨s0, s1, s2, s3, s4, s5, s6, s7, s8, s9⟩
             go_simp
             with_reducible rfl
            rotate_left
            ·simp only [Act.put, List.setIfInBounds_toArray, List.set_cons_zero, List.set_cons_succ, i64_w, i32_w]
             rfl
            refine take_ (i := 15) (N := some 79) (v := ?_) (a' := ?_) #[true, true, true, true, true, true, true, true, true, false, false, true, true, true, true, true, true, false, false, false, true, false, false, false, false, false] rfl rfl (take_ofW HT_.out HW_.out (by kernel_rfl)) (fun _ _ _ h => h) (Or.inl ⟨by rfl, ?_⟩) hHeld ?_ ?_
            rotate_left
            ·rintro w' ⟨s0, s1, s2, s3, s4, s5, s6, s7, s8, s9⟩
             go_simp
             with_reducible rfl
            rotate_left
            ·simp only [Act.put, List.setIfInBounds_toArray, List.set_cons_zero, List.set_cons_succ, i64_w, i32_w]
             rfl
            refine take_ (i := 17) (N := some 81) (v := ?_) (a' := ?_) #[true, true, true, true, true, true, true, true, true, false, false, true, true, true, true, true, true, true, false, false, true, false, false, false, false, false] rfl rfl (take_ofW HT_.out HW_.out (by kernel_rfl)) (fun _ _ _ h => h) (Or.inl ⟨by rfl, ?_⟩) hHeld ?_ ?_
            rotate_left
            ·rintro w' ⟨s0, s1, s2, s3, s4, s5, s6, s7, s8, s9⟩
             go_simp
             with_reducible rfl
            rotate_left
            ·simp only [Act.put, List.setIfInBounds_toArray, List.set_cons_zero, List.set_cons_succ, i64_w, i32_w]
             rfl
            (refine one_ (i := 9) (N := some 73) #[true, true, true, true, true, true, true, true, true, true, false, true, true, true, true, true, true, true, false, false, true, false, false, false, false, false] rfl rfl (one_of HT_.out (by kernel_rfl)) (by decide) (fun K hK => ?_));(refine goes_ Try.func27 (by kernel_rfl) rfl #[.int .i64 ((rd_T91 l2 x8_1).f0), .int .i64 (wrap64 (2 + t162))] (by rfl) rfl rfl (by (try simp only [List.map_toArray, List.map_cons, List.map_nil]); first | done | rfl | (simp only [List.length_drop, List.length_take]; rfl)) ?_)
            with_reducible refine (racewaylaw8_pick.calls ((rd_T91 l2 x8_1).f0) (wrap64 (2 + t162)) t180 _ A31.out).mono ?_
            (rintro e w' ⟨rfl, ⟨nd, rfl⟩⟩);(refine ⟨_, rfl, ?_⟩);(refine hK.out _ _ ⟨(blk_cell BK163.out 0).trans rfl, (blk_cell BK163.out 1).trans rfl, (blk_cell BK163.out 2).trans rfl, (blk_cell BK163.out 3).trans rfl, ((HB.out.cell (World.block_lt_of_cell? w _ hw179_0)).trans hw179_0), ((HB.out.cell (World.block_lt_of_cell? w _ hw179_1)).trans hw179_1), ((HB.out.cell (World.block_lt_of_cell? w _ hw179_2)).trans hw179_2), ((HB.out.cell (World.block_lt_of_cell? w _ hw181_0)).trans hw181_0), ((HB.out.cell (World.block_lt_of_cell? w _ hw181_1)).trans hw181_1), ((HB.out.cell (World.block_lt_of_cell? w _ hw181_2)).trans hw181_2)⟩ (fun hHeld => ?_));(clear hK K);(refine norm_ (a' := ?_) ?_ ?_)
            rotate_left
            ·show Act.put _ (some 73) _ = _
             simp only [Act.put, List.setIfInBounds_toArray, List.set_cons_zero, List.set_cons_succ, i64_w, i32_w]
             rfl
            refine pure_ (i := 10) (N := some 74) (v := ?_) (a' := ?_) #[true, true, true, true, true, true, true, true, true, true, true, true, true, true, true, true, true, true, false, false, true, false, false, false, false, false] rfl rfl (any_of HT_.out (by kernel_rfl)) (fun _ _ _ h => h) (Or.inl ⟨by rfl, ?_⟩) ?_ ?_
            rotate_left
            ·intro w'
             go_simp
             with_reducible rfl
            rotate_left
            ·simp only [Act.put, List.setIfInBounds_toArray, List.set_cons_zero, List.set_cons_succ, i64_w, i32_w]
             rfl
            (refine one_ (i := 18) (N := some 82) #[true, true, true, true, true, true, true, true, true, true, true, true, true, true, true, true, true, true, true, false, true, false, false, false, false, false] rfl rfl (one_of HT_.out (by kernel_rfl)) (by decide) (fun K hK => ?_));(refine goes_ Try.func27 (by kernel_rfl) rfl #[.int .i64 ((rd_T91 l2 x8_1).f1), .int .i64 (wrap64 (2 + t162))] (by rfl) rfl rfl (by (try simp only [List.map_toArray, List.map_cons, List.map_nil]); first | done | rfl | (simp only [List.length_drop, List.length_take]; rfl)) ?_)
            with_reducible refine (racewaylaw8_pick.calls ((rd_T91 l2 x8_1).f1) (wrap64 (2 + t162)) t182 _ A32.out).mono ?_
            (rintro e w' ⟨rfl, ⟨nd, rfl⟩⟩);(refine ⟨_, rfl, ?_⟩);(refine hK.out _ _ ⟨(blk_cell BK163.out 0).trans rfl, (blk_cell BK163.out 1).trans rfl, (blk_cell BK163.out 2).trans rfl, (blk_cell BK163.out 3).trans rfl, ((HB.out.cell (World.block_lt_of_cell? w _ hw179_0)).trans hw179_0), ((HB.out.cell (World.block_lt_of_cell? w _ hw179_1)).trans hw179_1), ((HB.out.cell (World.block_lt_of_cell? w _ hw179_2)).trans hw179_2), ((HB.out.cell (World.block_lt_of_cell? w _ hw181_0)).trans hw181_0), ((HB.out.cell (World.block_lt_of_cell? w _ hw181_1)).trans hw181_1), ((HB.out.cell (World.block_lt_of_cell? w _ hw181_2)).trans hw181_2)⟩ (fun hHeld => ?_));(clear hK K);(refine norm_ (a' := ?_) ?_ ?_)
            rotate_left
            ·show Act.put _ (some 82) _ = _
             simp only [Act.put, List.setIfInBounds_toArray, List.set_cons_zero, List.set_cons_succ, i64_w, i32_w]
             rfl
            refine pure_ (i := 19) (N := some 83) (v := ?_) (a' := ?_) #[true, true, true, true, true, true, true, true, true, true, true, true, true, true, true, true, true, true, true, true, true, false, false, false, false, false] rfl rfl (any_of HT_.out (by kernel_rfl)) (fun _ _ _ h => h) (Or.inl ⟨by rfl, ?_⟩) ?_ ?_
            rotate_left
            ·intro w'
             go_simp
             with_reducible rfl
            rotate_left
            ·simp only [Act.put, List.setIfInBounds_toArray, List.set_cons_zero, List.set_cons_succ, i64_w, i32_w]
             rfl
            refine pure_ (i := 21) (N := some 85) (v := ?_) (a' := ?_) #[true, true, true, true, true, true, true, true, true, true, true, true, true, true, true, true, true, true, true, true, true, true, false, false, false, false] rfl rfl (any_of HT_.out (by kernel_rfl)) (fun _ _ _ h => h) (Or.inl ⟨by rfl, ?_⟩) ?_ ?_
            rotate_left
            ·intro w'
             go_simp
             with_reducible rfl
            rotate_left
            ·simp only [Act.put, List.setIfInBounds_toArray, List.set_cons_zero, List.set_cons_succ, i64_w, i32_w]
             rfl
            (refine one_ (i := 22) (N := some 86) #[true, true, true, true, true, true, true, true, true, true, true, true, true, true, true, true, true, true, true, true, true, true, true, false, false, false] rfl rfl (one_of HT_.out (by kernel_rfl)) (by decide) (fun K hK => ?_));(refine value_ (w1 := ?_) (v := ?_) (by rfl) rfl ?_ ?_)
            rotate_left 2
            ·go_simp
             constructor
             ·rfl
             ·rfl
            (refine hK.out _ _ ⟨(blk_cell (blk_alloc BK163.out _) 0).trans rfl, (blk_cell (blk_alloc BK163.out _) 1).trans rfl, (blk_cell (blk_alloc BK163.out _) 2).trans rfl, (blk_cell (blk_alloc BK163.out _) 3).trans rfl, (World.cell?_alloc_lt _ _ _ (World.block_lt_of_cell? _ _ (((HB.out.cell (World.block_lt_of_cell? w _ hw179_0)).trans hw179_0)))).trans (((HB.out.cell (World.block_lt_of_cell? w _ hw179_0)).trans hw179_0)), (World.cell?_alloc_lt _ _ _ (World.block_lt_of_cell? _ _ (((HB.out.cell (World.block_lt_of_cell? w _ hw179_1)).trans hw179_1)))).trans (((HB.out.cell (World.block_lt_of_cell? w _ hw179_1)).trans hw179_1)), (World.cell?_alloc_lt _ _ _ (World.block_lt_of_cell? _ _ (((HB.out.cell (World.block_lt_of_cell? w _ hw179_2)).trans hw179_2)))).trans (((HB.out.cell (World.block_lt_of_cell? w _ hw179_2)).trans hw179_2)), (World.cell?_alloc_lt _ _ _ (World.block_lt_of_cell? _ _ (((HB.out.cell (World.block_lt_of_cell? w _ hw181_0)).trans hw181_0)))).trans (((HB.out.cell (World.block_lt_of_cell? w _ hw181_0)).trans hw181_0)), (World.cell?_alloc_lt _ _ _ (World.block_lt_of_cell? _ _ (((HB.out.cell (World.block_lt_of_cell? w _ hw181_1)).trans hw181_1)))).trans (((HB.out.cell (World.block_lt_of_cell? w _ hw181_1)).trans hw181_1)), (World.cell?_alloc_lt _ _ _ (World.block_lt_of_cell? _ _ (((HB.out.cell (World.block_lt_of_cell? w _ hw181_2)).trans hw181_2)))).trans (((HB.out.cell (World.block_lt_of_cell? w _ hw181_2)).trans hw181_2))⟩ (fun hHeld => ?_));(clear hK K);(refine norm_ (a' := ?_) ?_ ?_)
            rotate_left
            ·show Act.put _ (some 86) _ = _
             simp only [Act.put, List.setIfInBounds_toArray, List.set_cons_zero, List.set_cons_succ, i64_w, i32_w]
             rfl
            (refine one_ (i := 23) (N := some 87) #[true, true, true, true, true, true, true, true, true, true, true, true, true, true, true, true, true, true, true, true, true, true, true, true, false, false] rfl rfl (one_of HT_.out (by kernel_rfl)) (by decide) (fun K hK => ?_));(refine Kd.R_append_step k30 (w0 := w) w.heap.size (by rfl) (.tmp 65) (.tmp 86) 24 30 (.agg #[(.int .i64 0), (.int .i64 0), (.int .i64 0)]) 24 rfl Try.underlying24 info30 rfl (by decide) (by omega) u164003 x164003_1 (⟨wrap64 (1 + t180), wrap64 (1 + t182), t167⟩ : S30) [.int .i64 (wrap64 (1 + t180)), .int .i64 (wrap64 (1 + t182)), .int .i64 t167] (fun _ => True) (fun _ => False) rfl rfl ?aP (fun _ hk => hk.elim) ?aF ?aO ?aB ?aS ?aL ?_)
            (case aP => exact k30_mkM _ _ _ (⟨wrap64 (1 + t180), wrap64 (1 + t182), t167⟩ : S30))
            (case aB => exact (by repeat (first | (with_reducible first | exact HB.out | apply below_alloc | apply pw_below_drewN | apply below_drew1 | refine below_set ?_ GE161.out | refine below_set ?_ GE163.out) | exact HB.out)))
            (case aF => exact (fun _ _ => trivial))
            (case aO => exact (by (with_reducible repeat first | apply Kd.R_alloc | apply Kd.R_drewN | apply Kd.R_drew); exact HO_164003.out))
            (case aS => exact (below_size (by repeat (first | (with_reducible first | exact HB.out | apply below_alloc | apply pw_below_drewN | apply below_drew1 | refine below_set ?_ GE161.out | refine below_set ?_ GE163.out) | exact HB.out))))
            (case aL => have := LMc33.out; omega)
            (intro v184 w35 ho hb hg hat);(rw [← Ny183.out] at ho);(have n0_ := Aside0.mk (blk_grown (g := gb161) (o := .cells #[.int .i64 0, .int .i64 0, .int .i64 0, .slice none 0 0] 26 (0, 0)) (by (with_reducible repeat first | refine blk_drewN ?_ _ | refine blk_drew ?_ | refine blk_alloc ?_ _); exact BK161.out) hg (Kd.R_ne HO_164003.out BK161.out (by decide))));(have n1_ := Aside0.mk (blk_grown (g := gb163) (o := .cells #[.int .i64 (wrap64 (2 + t162)), .int .i64 (wrap64 (1 + t164)), .int .i64 (wrap64 (1 + (Int.tmod (wrap64 ((wrap64 (1 + t164)) + t165)) (wrap64 (2 + t162))))), u164003] 26 (0, 0)) (by (with_reducible repeat first | refine blk_drewN ?_ _ | refine blk_drew ?_ | refine blk_alloc ?_ _); exact BK163.out) hg (Kd.R_ne HO_164003.out BK163.out (by decide))));(have n2_ := Aside0.mk (hb));(have n3_ := Aside0.mk (ho));(clear BK161);(clear BK163);(clear HB);(clear HO_164003);(have BK161 := n0_);(have BK163 := n1_);(have HB := n2_);(have HO185 := n3_);(clear n0_ n1_ n2_ n3_);(clear ho hb hg hat);(obtain ⟨Ao36, co36, eo36⟩ := Kd.R_slice HO185.out);((first | subst eo36 | (injection eo36 with f1_ f2_ f3_; have f4_ := f1_.symm; have f5_ := f3_.symm; clear f1_ f2_ f3_; subst f4_; subst f5_)));(refine hK.out _ _ ⟨(blk_cell BK163.out 0).trans rfl, (blk_cell BK163.out 1).trans rfl, (blk_cell BK163.out 2).trans rfl, (blk_cell BK163.out 3).trans rfl, ((HB.out.cell (World.block_lt_of_cell? w _ hw179_0)).trans hw179_0), ((HB.out.cell (World.block_lt_of_cell? w _ hw179_1)).trans hw179_1), ((HB.out.cell (World.block_lt_of_cell? w _ hw179_2)).trans hw179_2), ((HB.out.cell (World.block_lt_of_cell? w _ hw181_0)).trans hw181_0), ((HB.out.cell (World.block_lt_of_cell? w _ hw181_1)).trans hw181_1), ((HB.out.cell (World.block_lt_of_cell? w _ hw181_2)).trans hw181_2)⟩ (fun hHeld => ?_));(clear hK K);(refine norm_ (a' := ?_) ?_ ?_)
            rotate_left
            ·show Act.put _ (some 87) _ = _
             simp only [Act.put, List.setIfInBounds_toArray, List.set_cons_zero, List.set_cons_succ, i64_w, i32_w]
             rfl
            refine pure_ (i := 24) (N := some 88) (v := ?_) (a' := ?_) #[true, true, true, true, true, true, true, true, true, true, true, true, true, true, true, true, true, true, true, true, true, true, true, true, true, false] rfl rfl (any_of HT_.out (by kernel_rfl)) (fun _ _ _ h => h) (Or.inl ⟨by rfl, ?_⟩) ?_ ?_
            rotate_left
            ·intro w'
             go_simp
             with_reducible rfl
            rotate_left
            ·simp only [Act.put, List.setIfInBounds_toArray, List.set_cons_zero, List.set_cons_succ, i64_w, i32_w]
             rfl
            (refine last_ (i := 25) (N := none) #[true, true, true, true, true, true, true, true, true, true, true, true, true, true, true, true, true, true, true, true, true, true, true, true, true, true] rfl rfl (one_of HT_.out (by kernel_rfl)) (by decide) (fun K hK => ?_));(have hs37 : w35.cell? ⟨gb163, 3, none⟩ = some (u164003) := (blk_cell BK163.out 3).trans rfl);(have hfs37 := blk_frozen BK163.out 3);(have hns37_0 := NB161_163.out);(have hms37_0 := NB163_161.out);(refine skip_ (w1 := ?_) (by rfl) rfl ?_ ?_)
            rotate_left
            ·go_simp
             rfl
            (refine hK.out _ _ ?_);(clear hK K);(refine done_ (done_of HT_.out (by kernel_rfl)) ?_)
            try go_wp2
            go_roundg kj14
            case measure => have := HK1.out; have := HJ14.out; omega
            case rel => exact ⟨(wrap64 (x8_1 + 1)), (y183), (.slice Ao36 y183.length co36), (by first | rfl | (simp; done) | (simp [*]; done)), H', ⟨by have := HK1.out; have := HJ14.out; omega⟩, ⟨by (with_reducible repeat first | apply Kd.R_alloc | apply Kd.R_drewN | apply Kd.R_drew); exact Kd.R_mono (Kd.R_far (p := ⟨gb163, 3, none⟩) (Kd.R_types HO185.out BK163.out (by decide)) (fun _ hk => hk.2) (.slice Ao36 y183.length co36)) (fun _ hk => trivial)⟩, ⟨by (with_reducible repeat first | refine blk_drewN ?_ _ | refine blk_drew ?_ | refine blk_alloc ?_ _); refine blk_far ?_ NB161_163.out _; (with_reducible repeat first | refine blk_drewN ?_ _ | refine blk_drew ?_ | refine blk_alloc ?_ _); exact BK161.out⟩, ⟨by (with_reducible repeat first | refine blk_drewN ?_ _ | refine blk_drew ?_ | refine blk_alloc ?_ _); refine blk_put (cs := #[.int .i64 (wrap64 (2 + t162)), .int .i64 (wrap64 (1 + t164)), .int .i64 (wrap64 (1 + (Int.tmod (wrap64 ((wrap64 (1 + t164)) + t165)) (wrap64 (2 + t162))))), u164003]) ?_ 3 _ rfl; (with_reducible repeat first | refine blk_drewN ?_ _ | refine blk_drew ?_ | refine blk_alloc ?_ _); exact BK163.out⟩, ⟨by repeat (first | (with_reducible first | exact HB.out | apply below_alloc | apply pw_below_drewN | apply below_drew1 | refine below_set ?_ GE161.out | refine below_set ?_ GE163.out) | exact HB.out)⟩⟩
          ·(rw [if_neg c33] at H);(exact absurd H (by simp))
        ·(rw [if_neg c19] at H);(exact absurd H (by simp))
       ·(rw [if_neg c18] at H);(exact absurd H (by simp))
      ·(replace c17 := Bool.eq_false_iff.mpr c17);(subst c17);(have H1 : (some ((wrap64 (2 + t162)), (wrap64 (1 + t164)), (wrap64 (1 + (Int.tmod (wrap64 ((wrap64 (1 + t164)) + t165)) (wrap64 (2 + t162))))), x164003_1)) = some (r1, r2, r3, r4) := by rw [if_neg (show ¬ (false = true) by decide)] at H; exact H);(clear H);(have H := H1);(clear H1)
       as_aux_lemma =>
        (simp only [Option.some.injEq, Prod.mk.injEq] at H);(obtain ⟨rfl, rfl, rfl, rfl⟩ := H);(have hnb38 := NB163_161.out);(have hnc38 := NB161_163.out);(have hcz39_0 : wc.cell? ⟨gb163, 0, none⟩ = some (.int .i64 (wrap64 (2 + t162))) := (blk_cell BK163.out 0).trans rfl);(have hcz39_1 : wc.cell? ⟨gb163, 1, none⟩ = some (.int .i64 (wrap64 (1 + t164))) := (blk_cell BK163.out 1).trans rfl);(have hcz39_2 : wc.cell? ⟨gb163, 2, none⟩ = some (.int .i64 (wrap64 (1 + (Int.tmod (wrap64 ((wrap64 (1 + t164)) + t165)) (wrap64 (2 + t162)))))) := (blk_cell BK163.out 2).trans rfl);(have hcz39_3 : wc.cell? ⟨gb163, 3, none⟩ = some (u164003) := (blk_cell BK163.out 3).trans rfl);(have hfz39_0 := blk_frozen BK163.out 0);(have hfz39_1 := blk_frozen BK163.out 1);(have hfz39_2 := blk_frozen BK163.out 2);(have hfz39_3 := blk_frozen BK163.out 3);(have hcz40_0 : wc.cell? ⟨gb161, 0, none⟩ = some (.int .i64 0) := (blk_cell BK161.out 0).trans rfl);(have hcz40_1 : wc.cell? ⟨gb161, 1, none⟩ = some (.int .i64 0) := (blk_cell BK161.out 1).trans rfl);(have hcz40_2 : wc.cell? ⟨gb161, 2, none⟩ = some (.int .i64 0) := (blk_cell BK161.out 2).trans rfl);(have hcz40_3 : wc.cell? ⟨gb161, 3, none⟩ = some (.slice none 0 0) := (blk_cell BK161.out 3).trans rfl);(have hfz40_0 := blk_frozen BK161.out 0);(have hfz40_1 := blk_frozen BK161.out 1);(have hfz40_2 := blk_frozen BK161.out 2);(have hfz40_3 := blk_frozen BK161.out 3);(obtain ⟨Ao41, co41, eo41⟩ := Kd.R_slice HO_164003.out);(subst eo41)
        go_wp2
        (refine bodyPost_ret (results_cell_row rfl _ _ gb161 26 #[.int .i64 (wrap64 (2 + t162)), .int .i64 (wrap64 (1 + t164)), .int .i64 (wrap64 (1 + (Int.tmod (wrap64 ((wrap64 (1 + t164)) + t165)) (wrap64 (2 + t162))))), .slice Ao41 x164003_1.length co41] (0, 0) _ rfl (by (with_reducible repeat first | refine blk_drewN ?_ _ | refine blk_drew ?_ | refine blk_alloc ?_ _); refine blk_put (cs := #[.int .i64 (wrap64 (2 + t162)), .int .i64 (wrap64 (1 + t164)), .int .i64 (wrap64 (1 + (Int.tmod (wrap64 ((wrap64 (1 + t164)) + t165)) (wrap64 (2 + t162))))), .slice none 0 0]) ?_ 3 _ rfl; (with_reducible repeat first | refine blk_drewN ?_ _ | refine blk_drew ?_ | refine blk_alloc ?_ _); refine blk_put (cs := #[.int .i64 (wrap64 (2 + t162)), .int .i64 (wrap64 (1 + t164)), .int .i64 0, .slice none 0 0]) ?_ 2 _ rfl; (with_reducible repeat first | refine blk_drewN ?_ _ | refine blk_drew ?_ | refine blk_alloc ?_ _); refine blk_put (cs := #[.int .i64 (wrap64 (2 + t162)), .int .i64 0, .int .i64 0, .slice none 0 0]) ?_ 1 _ rfl; (with_reducible repeat first | refine blk_drewN ?_ _ | refine blk_drew ?_ | refine blk_alloc ?_ _); refine blk_put (cs := #[.int .i64 0, .int .i64 0, .int .i64 0, .slice none 0 0]) ?_ 0 _ rfl; (with_reducible repeat first | refine blk_drewN ?_ _ | refine blk_drew ?_ | refine blk_alloc ?_ _); exact BK161.out) Try.underlying26 rfl (by kernel_rfl)) rfl ?_);(exact ⟨_, by first | rfl | (simp [errW_none, errW_some] <;> rfl) | (simp [*, errW_none, errW_some] <;> rfl), by (with_reducible repeat first | apply Kd.R_alloc | apply Kd.R_drewN | apply Kd.R_drew); exact Kd.R_mono (Kd.R_far (p := ⟨gb161, 3, none⟩) (Kd.R_far (p := ⟨gb161, 2, none⟩) (Kd.R_far (p := ⟨gb161, 1, none⟩) (Kd.R_far (p := ⟨gb161, 0, none⟩) (Kd.R_types HO_164003.out BK161.out (by decide)) (fun _ hk => hk.2) (.int .i64 (wrap64 (2 + t162)))) (fun _ hk => hk.2) (.int .i64 (wrap64 (1 + t164)))) (fun _ hk => hk.2) (.int .i64 (wrap64 (1 + (Int.tmod (wrap64 ((wrap64 (1 + t164)) + t165)) (wrap64 (2 + t162))))))) (fun _ hk => hk.2) (.slice Ao41 x164003_1.length co41)) (fun _ hk => trivial), by repeat (first | (with_reducible first | exact HB.out | apply below_alloc | apply pw_below_drewN | apply below_drew1 | refine below_set ?_ GE161.out | refine below_set ?_ GE163.out) | exact HB.out)⟩)
end Go.Proofs.Ytdiaedecnfbgdaa.PPlainFills
