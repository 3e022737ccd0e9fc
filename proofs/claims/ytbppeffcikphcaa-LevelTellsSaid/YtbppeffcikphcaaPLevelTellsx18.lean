/- For the law LevelTells, for every input: printed by a program (wip/myprint), contracts by hand where it says MANUAL. -/
-- slim
import Derived.Test.YtbppeffcikphcaaPLevelTellsx0
import Derived.Test.YtbppeffcikphcaaPLevelTellsx15
import Derived.Test.YtbppeffcikphcaaPLevelTellsx16
import Derived.Test.YtbppeffcikphcaaPLevelTellsx17
namespace Go.Proofs.Ytbppeffcikphcaa.PLevelTells
open Go.RowKit Go.Proofs.YtbppeffcikphcaaW.PrintWords Go.Proofs.YtbppeffcikphcaaW.PrintLast Go.Proofs.YtbppeffcikphcaaW.PrintMore
attribute [local go_sem] max2_int min2_int max_two min_two max_three min_three max_four min_four
set_option linter.unusedVariables false
set_option linter.unusedSimpArgs false
/-! ### q7_Levels: function 31 -/
mutual
def q7_Levels.l0 : Nat → Int → List Int → List Int → Int → Int → Int → Int → List (S49) → Option (List Int × Int)
 | 0, _, _, _, _, _, _, _, _ => none
 | k + 1, x2, x10, x12, x13, x205000, x205001, x205002, x205003 => if x13 < (x12.length : Int) then (if 0 ≤ x13 then (q7_Levels.l0 k x2 x10 (x12.set (x13 : Int).toNat (-1)) (wrap64 (x13 + 1)) x205000 x205001 x205002 x205003) else (none)) else (if 0 ≤ x205001 then (if x205001 < (x12.length : Int) then (q7_Levels.l1 k x2 x10 (x12.set (x205001 : Int).toNat 0) 0 x205000 x205001 x205002 x205003) else (none)) else (none))
def q7_Levels.l1 : Nat → Int → List Int → List Int → Int → Int → Int → Int → List (S49) → Option (List Int × Int)
 | 0, _, _, _, _, _, _, _, _ => none
 | k + 1, x2, x10, x12, x14, x205000, x205001, x205002, x205003 => if x14 < x205000 then (q7_Levels.l2 k x2 x10 x12 x14 0 x205000 x205001 x205002 x205003) else (some (x12, 0))
def q7_Levels.l2 : Nat → Int → List Int → List Int → Int → Int → Int → Int → Int → List (S49) → Option (List Int × Int)
 | 0, _, _, _, _, _, _, _, _, _ => none
 | k + 1, x2, x10, x12, x14, x15, x205000, x205001, x205002, x205003 => if x15 < (x10.length : Int) then ((q6_Ends.f k x205000 x205001 x205002 x205003 x15).bind fun bt218 => (if 0 ≤ x15 then (if (rd x10 x15) ≥ x2 then (if 0 ≤ bt218.1 then (if bt218.1 < (x12.length : Int) then (if (rd x12 bt218.1) = x14 then (if 0 ≤ bt218.2 then (if bt218.2 < (x12.length : Int) then (if (rd x12 bt218.2) < 0 then (q7_Levels.l2 k x2 x10 (x12.set (bt218.2 : Int).toNat (wrap64 (x14 + 1))) x14 (wrap64 (x15 + 1)) x205000 x205001 x205002 x205003) else (q7_Levels.l2 k x2 x10 x12 x14 (wrap64 (x15 + 1)) x205000 x205001 x205002 x205003)) else (none)) else (none)) else (q7_Levels.l2 k x2 x10 x12 x14 (wrap64 (x15 + 1)) x205000 x205001 x205002 x205003)) else (none)) else (none)) else (q7_Levels.l2 k x2 x10 x12 x14 (wrap64 (x15 + 1)) x205000 x205001 x205002 x205003)) else (none))) else (q7_Levels.l1 k x2 x10 x12 (wrap64 (x14 + 1)) x205000 x205001 x205002 x205003)
end
def q7_Levels.f (k : Nat) (a0_0 : Int) (a0_1 : Int) (a0_2 : Int) (l0_3 : List (S49)) (l1 : List Int) (a2 : Int) : Option (List Int × Int) := (q6_Reach.f k a0_0 a0_1 a0_2 l0_3 l1 a2).bind fun bt205 => (if bt205.2 = 0 then ((q6_Room.f k a0_0 a0_1 a0_2 l0_3 l1).bind fun bt209 => (if 0 ≤ (wrap64 (a0_0 + 1)) then (if (wrap64 (a0_0 + 1) : Int).toNat ≤ 35184372088832 then (q7_Levels.l0 k a2 bt209.1 (List.replicate (wrap64 (a0_0 + 1) : Int).toNat 0) 0 a0_0 a0_1 a0_2 l0_3) else (none)) else (none))) else (some (([] : List Int), bt205.2)))
theorem q7_Levels.mono_l : ∀ k, (∀ y0 y1 y2 y3 y4 y5 y6 y7, LeO (q7_Levels.l0 k y0 y1 y2 y3 y4 y5 y6 y7) (q7_Levels.l0 (k + 1) y0 y1 y2 y3 y4 y5 y6 y7)) ∧ (∀ y0 y1 y2 y3 y4 y5 y6 y7, LeO (q7_Levels.l1 k y0 y1 y2 y3 y4 y5 y6 y7) (q7_Levels.l1 (k + 1) y0 y1 y2 y3 y4 y5 y6 y7)) ∧ (∀ y0 y1 y2 y3 y4 y5 y6 y7 y8, LeO (q7_Levels.l2 k y0 y1 y2 y3 y4 y5 y6 y7 y8) (q7_Levels.l2 (k + 1) y0 y1 y2 y3 y4 y5 y6 y7 y8))
 | 0 => ⟨fun _ _ _ _ _ _ _ _ r h => by simp [q7_Levels.l0] at h, fun _ _ _ _ _ _ _ _ r h => by simp [q7_Levels.l1] at h, fun _ _ _ _ _ _ _ _ _ r h => by simp [q7_Levels.l2] at h⟩
 | k + 1 => by
  obtain ⟨ih0, ih1, ih2⟩ := q7_Levels.mono_l k
  refine ⟨?_, ?_, ?_⟩
  ·intro y0 y1 y2 y3 y4 y5 y6 y7
   unfold q7_Levels.l0
   repeat' first
   | (with_reducible exact ih0 _ _ _ _ _ _ _ _)
   | (with_reducible exact ih1 _ _ _ _ _ _ _ _)
   | (with_reducible exact ih2 _ _ _ _ _ _ _ _ _)
   | (with_reducible exact q6_Ends.mono _ _ _ _ _ _)
   | (with_reducible exact q6_Reach.mono _ _ _ _ _ _ _)
   | (with_reducible exact q6_Room.mono _ _ _ _ _ _)
   | (with_reducible exact LeO.refl _)
   | (with_reducible exact LeO.none _)
   | (with_reducible refine LeO.ite ?_ ?_)
   | (with_reducible refine LeO.bind ?_ (fun _ => ?_))
   | exact ih0 _ _ _ _ _ _ _ _
   | exact ih1 _ _ _ _ _ _ _ _
   | exact ih2 _ _ _ _ _ _ _ _ _
   | exact q6_Ends.mono _ _ _ _ _ _
   | exact q6_Reach.mono _ _ _ _ _ _ _
   | exact q6_Room.mono _ _ _ _ _ _
   | exact LeO.none _
   | refine LeO.ite ?_ ?_
   | refine LeO.bind ?_ (fun _ => ?_)
  ·intro y0 y1 y2 y3 y4 y5 y6 y7
   unfold q7_Levels.l1
   repeat' first
   | (with_reducible exact ih0 _ _ _ _ _ _ _ _)
   | (with_reducible exact ih1 _ _ _ _ _ _ _ _)
   | (with_reducible exact ih2 _ _ _ _ _ _ _ _ _)
   | (with_reducible exact q6_Ends.mono _ _ _ _ _ _)
   | (with_reducible exact q6_Reach.mono _ _ _ _ _ _ _)
   | (with_reducible exact q6_Room.mono _ _ _ _ _ _)
   | (with_reducible exact LeO.refl _)
   | (with_reducible exact LeO.none _)
   | (with_reducible refine LeO.ite ?_ ?_)
   | (with_reducible refine LeO.bind ?_ (fun _ => ?_))
   | exact ih0 _ _ _ _ _ _ _ _
   | exact ih1 _ _ _ _ _ _ _ _
   | exact ih2 _ _ _ _ _ _ _ _ _
   | exact q6_Ends.mono _ _ _ _ _ _
   | exact q6_Reach.mono _ _ _ _ _ _ _
   | exact q6_Room.mono _ _ _ _ _ _
   | exact LeO.none _
   | refine LeO.ite ?_ ?_
   | refine LeO.bind ?_ (fun _ => ?_)
  ·intro y0 y1 y2 y3 y4 y5 y6 y7 y8
   unfold q7_Levels.l2
   repeat' first
   | (with_reducible exact ih0 _ _ _ _ _ _ _ _)
   | (with_reducible exact ih1 _ _ _ _ _ _ _ _)
   | (with_reducible exact ih2 _ _ _ _ _ _ _ _ _)
   | (with_reducible exact q6_Ends.mono _ _ _ _ _ _)
   | (with_reducible exact q6_Reach.mono _ _ _ _ _ _ _)
   | (with_reducible exact q6_Room.mono _ _ _ _ _ _)
   | (with_reducible exact LeO.refl _)
   | (with_reducible exact LeO.none _)
   | (with_reducible refine LeO.ite ?_ ?_)
   | (with_reducible refine LeO.bind ?_ (fun _ => ?_))
   | exact ih0 _ _ _ _ _ _ _ _
   | exact ih1 _ _ _ _ _ _ _ _
   | exact ih2 _ _ _ _ _ _ _ _ _
   | exact q6_Ends.mono _ _ _ _ _ _
   | exact q6_Reach.mono _ _ _ _ _ _ _
   | exact q6_Room.mono _ _ _ _ _ _
   | exact LeO.none _
   | refine LeO.ite ?_ ?_
   | refine LeO.bind ?_ (fun _ => ?_)
theorem q7_Levels.mono : ∀ a0 a1 a2 a3 a4 a5 k, LeO (q7_Levels.f k a0 a1 a2 a3 a4 a5) (q7_Levels.f (k + 1) a0 a1 a2 a3 a4 a5) := by
 intro a0 a1 a2 a3 a4 a5 k
 obtain ⟨ih0, ih1, ih2⟩ := q7_Levels.mono_l k
 unfold q7_Levels.f
 repeat' first
   | (with_reducible exact ih0 _ _ _ _ _ _ _ _)
   | (with_reducible exact ih1 _ _ _ _ _ _ _ _)
   | (with_reducible exact ih2 _ _ _ _ _ _ _ _ _)
   | (with_reducible exact q6_Ends.mono _ _ _ _ _ _)
   | (with_reducible exact q6_Reach.mono _ _ _ _ _ _ _)
   | (with_reducible exact q6_Room.mono _ _ _ _ _ _)
   | (with_reducible exact LeO.refl _)
   | (with_reducible exact LeO.none _)
   | (with_reducible refine LeO.ite ?_ ?_)
   | (with_reducible refine LeO.bind ?_ (fun _ => ?_))
   | exact ih0 _ _ _ _ _ _ _ _
   | exact ih1 _ _ _ _ _ _ _ _
   | exact ih2 _ _ _ _ _ _ _ _ _
   | exact q6_Ends.mono _ _ _ _ _ _
   | exact q6_Reach.mono _ _ _ _ _ _ _
   | exact q6_Room.mono _ _ _ _ _ _
   | exact LeO.none _
   | refine LeO.ite ?_ ?_
   | refine LeO.bind ?_ (fun _ => ?_)
set_option maxHeartbeats 8000000 in
set_option maxRecDepth 100000 in
theorem q7_Levels.calls (k : Nat) (a0_0 : Int) (a0_1 : Int) (a0_2 : Int) (A0_3 : Option Addr) (c0_3 : Nat) (l0_3 : List (S49)) (A1 : Option Addr) (c1 : Nat) (l1 : List Int) (a2 : Int) (r1 : List Int) (r2 : Int) (w : World) (hr0_3 : Kd.C k49 w A0_3 l0_3.length l0_3) (hc0_3 : l0_3.length ≤ c0_3) (hr1 : Kd.C (Kd.int .i64) w A1 l1.length l1) (hc1 : l1.length ≤ c1) (h : q7_Levels.f k a0_0 a0_1 a0_2 l0_3 l1 a2 = some (r1, r2)) :
  Calls Try.prog 31 #[.agg #[.int .i64 a0_0, .int .i64 a0_1, .int .i64 a0_2, .slice A0_3 l0_3.length c0_3], .slice A1 l1.length c1, .int .i64 a2] w fun e w' => ∃ v0_ : Value, e = .returned (.tuple #[v0_, .int .i64 r2]) ∧ Kd.R (Kd.int .i64) 3 w' w.heap.size (fun _ => True) v0_ r1 ∧ Below w.heap.size w w' := by
 have hu27 := Try.underlying27
 have HR0_3 := Aside0.mk hr0_3
 have HC0_3 := Aside0.mk hc0_3
 clear hr0_3 hc0_3
 have HR1 := Aside0.mk hr1
 have HC1 := Aside0.mk hc1
 clear hr1 hc1
 have HB := Aside0.mk (Below.refl w.heap.size w)
 have H : ((q6_Reach.f k a0_0 a0_1 a0_2 l0_3 l1 a2).bind fun bt205 => (if bt205.2 = 0 then ((q6_Room.f k a0_0 a0_1 a0_2 l0_3 l1).bind fun bt209 => (if 0 ≤ (wrap64 (a0_0 + 1)) then (if (wrap64 (a0_0 + 1) : Int).toNat ≤ 35184372088832 then (q7_Levels.l0 k a2 bt209.1 (List.replicate (wrap64 (a0_0 + 1) : Int).toNat 0) 0 a0_0 a0_1 a0_2 l0_3) else (none)) else (none))) else (some (([] : List Int), bt205.2)))) = some (r1, r2) := h
 clear h
 replace H := Option.bind_eq_some_iff.mp H
 obtain ⟨⟨t205, t208⟩, A40, H⟩ := H
 replace H : (if t208 = 0 then ((q6_Room.f k a0_0 a0_1 a0_2 l0_3 l1).bind fun bt209 => (if 0 ≤ (wrap64 (a0_0 + 1)) then (if (wrap64 (a0_0 + 1) : Int).toNat ≤ 35184372088832 then (q7_Levels.l0 k a2 bt209.1 (List.replicate (wrap64 (a0_0 + 1) : Int).toNat 0) 0 a0_0 a0_1 a0_2 l0_3) else (none)) else (none))) else (some (([] : List Int), t208))) = some (r1, r2) := H
 have A4 := Aside0.mk A40
 clear A40
 by_cases c5 : t208 = 0
 ·rw [if_pos c5] at H
  have c5b0 : (t208 == 0) = true := beq_iff_eq.mpr c5
  have c5b1 : (t208 != 0) = false := bne_eq_false_iff_eq.mpr c5
  clear c5
  replace H := Option.bind_eq_some_iff.mp H
  obtain ⟨⟨t209, t212⟩, A60, H⟩ := H
  replace H : (if 0 ≤ (wrap64 (a0_0 + 1)) then (if (wrap64 (a0_0 + 1) : Int).toNat ≤ 35184372088832 then (q7_Levels.l0 k a2 t209 (List.replicate (wrap64 (a0_0 + 1) : Int).toNat 0) 0 a0_0 a0_1 a0_2 l0_3) else (none)) else (none)) = some (r1, r2) := H
  have A6 := Aside0.mk A60
  clear A60
  obtain ⟨ji7, hji7⟩ : ∃ j_ : Int, (wrap64 (a0_0 + 1)) = j_ := ⟨_, rfl⟩
  replace H : (if 0 ≤ (ji7) then (if (ji7 : Int).toNat ≤ 35184372088832 then (q7_Levels.l0 k a2 t209 (List.replicate (ji7 : Int).toNat 0) 0 a0_0 a0_1 a0_2 l0_3) else (none)) else (none)) = some (r1, r2) := by first | (rw [hji7] at H; exact H) | (simp only [hji7] at H ⊢; exact H)
  (try rw [hji7] at A4)
  (try rw [hji7] at A6)
  have hji7w : (IntKind.i64.wrap (a0_0 + 1)) = ji7 := (i64_w _).trans hji7
  by_cases c8 : 0 ≤ (ji7)
  ·rw [if_pos c8] at H
   (have c8b0 := eq_true c8);(have c8b1 : decide (0 ≤ (ji7)) = true := decide_eq_true c8);(clear c8)
   by_cases c9 : (ji7 : Int).toNat ≤ 35184372088832
   ·(rw [if_pos c9] at H);(have c9b0 := eq_true c9);(have c9b1 : decide ((ji7 : Int).toNat ≤ 35184372088832) = true := decide_eq_true c9);(clear c9);(obtain ⟨y213, hy213⟩ : ∃ y_ : List Int, y_ = (List.replicate (ji7 : Int).toNat 0) := ⟨_, rfl⟩);(replace H : (q7_Levels.l0 k a2 t209 y213 0 a0_0 a0_1 a0_2 l0_3) = some (r1, r2) := by first | (rw [hy213]; with_reducible exact H) | (have H2_ := (Option.bind_some _ _).symm.trans H; rw [hy213]; with_reducible exact H2_) | (have H2_ := (Option.bind_some _ _).symm.trans H; with_reducible exact H2_) | with_reducible exact H | (rw [hy213]; exact H) | exact H);(have Ny213 := Aside0.mk hy213);(clear hy213);(have H' := Aside0.mk H);(clear H)
    go_enter Try.func31, Try.ntmps31
    go_wp2_with (first | ((with_reducible refine gate_dst (N := 3) rfl ?_); refine box_event ?hg (N := 3) ?hd (cs := #[.int .i64 a0_0, .int .i64 a0_1, .int .i64 a0_2, .slice A0_3 l0_3.length c0_3]) (t := 27) ?hr ?_; (case hd => rfl); (case hg => rfl); (case hr => first | (go_simp; done) | (go_simp; rfl)); intro gb204 hg w10 hbox hb; have n0_ := Aside0.mk (below_step (by repeat (first | (with_reducible first | exact HB.out | apply below_alloc | apply pw_below_drewN | apply below_drew1) | exact HB.out)) hb); have n1_ := Aside0.mk (hbox); have n2_ := Aside0.mk ((by rw [hg]; exact (below_size (by repeat (first | (with_reducible first | exact HB.out | apply below_alloc | apply pw_below_drewN | apply below_drew1) | exact HB.out))) : w.heap.size ≤ gb204)); have n3_ := Aside0.mk ((by rw [hg]; exact (below_size (by repeat (first | (with_reducible first | exact HB.out | apply below_alloc | apply pw_below_drewN | apply below_drew1) | exact HB.out))) : w.heap.size ≤ gb204)); clear HB; have HB := n0_; have BK204 := n1_; have GW204 := n2_; have GE204 := n3_; clear n0_ n1_ n2_ n3_; clear hb hbox hg; have hcz11_0 : w10.cell? ⟨gb204, 0, none⟩ = some (.int .i64 a0_0) := (blk_cell BK204.out 0).trans rfl; have hcz11_1 : w10.cell? ⟨gb204, 1, none⟩ = some (.int .i64 a0_1) := (blk_cell BK204.out 1).trans rfl; have hcz11_2 : w10.cell? ⟨gb204, 2, none⟩ = some (.int .i64 a0_2) := (blk_cell BK204.out 2).trans rfl; have hcz11_3 : w10.cell? ⟨gb204, 3, none⟩ = some (.slice A0_3 l0_3.length c0_3) := (blk_cell BK204.out 3).trans rfl; have hfz11_0 := blk_frozen BK204.out 0; have hfz11_1 := blk_frozen BK204.out 1; have hfz11_2 := blk_frozen BK204.out 2; have hfz11_3 := blk_frozen BK204.out 3) | ((with_reducible refine gate_callee (f := 38) rfl ?_); refine goesL_ (some 22) rfl rfl Try.func38 (by kernel_rfl) rfl #[.agg #[.int .i64 a0_0, .int .i64 a0_1, .int .i64 a0_2, .slice A0_3 l0_3.length c0_3], .slice A1 l1.length c1, .int .i64 a2] rfl (by (try simp only [List.map_toArray, List.map_cons, List.map_nil]); first | done | rfl | (simp only [List.length_drop, List.length_take]; rfl)) ?_; (with_reducible refine (q6_Reach.calls k a0_0 a0_1 a0_2 _ _ l0_3 _ _ l1 a2 t205 t208 _ ?side1 ?side2 ?side3 ?side4 A4.out).mono ?_); (case side1 => repeat (first | exact (Kd.C_below HR0_3.out HB.out) | (with_reducible refine Kd.C_alloc ?_ _) | (with_reducible refine Kd.C_drewN ?_ _) | (with_reducible refine Kd.C_drew ?_))); (case side2 => exact HC0_3.out); (case side3 => repeat (first | exact (Kd.C_below HR1.out HB.out) | (with_reducible refine Kd.C_alloc ?_ _) | (with_reducible refine Kd.C_drewN ?_ _) | (with_reducible refine Kd.C_drew ?_))); (case side4 => exact HC1.out); rintro e w12 ⟨v206, rfl, ho0, hb⟩; refine ⟨_, rfl, ?_⟩; have n0_ := Aside0.mk (Kd.R_lower ho0 (below_size (by repeat (first | (with_reducible first | exact HB.out | apply below_alloc | apply pw_below_drewN | apply below_drew1 | refine below_set ?_ GE204.out) | exact HB.out)))); have n1_ := Aside0.mk (blk_below (g := gb204) (o := .cells #[.int .i64 a0_0, .int .i64 a0_1, .int .i64 a0_2, .slice A0_3 l0_3.length c0_3] 27 (0, 0)) (by (with_reducible repeat first | refine blk_drewN ?_ _ | refine blk_drew ?_ | refine blk_alloc ?_ _); exact BK204.out) hb); have n2_ := Aside0.mk (below_step (by repeat (first | (with_reducible first | exact HB.out | apply below_alloc | apply pw_below_drewN | apply below_drew1 | refine below_set ?_ GE204.out) | exact HB.out)) hb); clear BK204; clear HB; have HO207 := n0_; have BK204 := n1_; have HB := n2_; clear n0_ n1_ n2_; (try clear hb); (try clear hk); (try clear ho0); have hcz13_0 : w12.cell? ⟨gb204, 0, none⟩ = some (.int .i64 a0_0) := (blk_cell BK204.out 0).trans rfl; have hcz13_1 : w12.cell? ⟨gb204, 1, none⟩ = some (.int .i64 a0_1) := (blk_cell BK204.out 1).trans rfl; have hcz13_2 : w12.cell? ⟨gb204, 2, none⟩ = some (.int .i64 a0_2) := (blk_cell BK204.out 2).trans rfl; have hcz13_3 : w12.cell? ⟨gb204, 3, none⟩ = some (.slice A0_3 l0_3.length c0_3) := (blk_cell BK204.out 3).trans rfl; have hfz13_0 := blk_frozen BK204.out 0; have hfz13_1 := blk_frozen BK204.out 1; have hfz13_2 := blk_frozen BK204.out 2; have hfz13_3 := blk_frozen BK204.out 3) | ((with_reducible refine gate_callee (f := 36) rfl ?_); refine goesL_ (some 31) rfl rfl Try.func36 (by kernel_rfl) rfl #[.agg #[.int .i64 a0_0, .int .i64 a0_1, .int .i64 a0_2, .slice A0_3 l0_3.length c0_3], .slice A1 l1.length c1] rfl (by (try simp only [List.map_toArray, List.map_cons, List.map_nil]); first | done | rfl | (simp only [List.length_drop, List.length_take]; rfl)) ?_; (with_reducible refine (q6_Room.calls k a0_0 a0_1 a0_2 _ _ l0_3 _ _ l1 t209 t212 _ ?side1 ?side2 ?side3 ?side4 A6.out).mono ?_); (case side1 => repeat (first | exact (Kd.C_below HR0_3.out HB.out) | (with_reducible refine Kd.C_alloc ?_ _) | (with_reducible refine Kd.C_drewN ?_ _) | (with_reducible refine Kd.C_drew ?_))); (case side2 => exact HC0_3.out); (case side3 => repeat (first | exact (Kd.C_below HR1.out HB.out) | (with_reducible refine Kd.C_alloc ?_ _) | (with_reducible refine Kd.C_drewN ?_ _) | (with_reducible refine Kd.C_drew ?_))); (case side4 => exact HC1.out); rintro e w14 ⟨v210, rfl, ho0, hb⟩; refine ⟨_, rfl, ?_⟩; have n0_ := Aside0.mk (Kd.R_below (by (with_reducible repeat first | apply Kd.R_alloc | apply Kd.R_drewN | apply Kd.R_drew); exact HO207.out) hb); have n1_ := Aside0.mk (Kd.R_lower ho0 (below_size (by repeat (first | (with_reducible first | exact HB.out | apply below_alloc | apply pw_below_drewN | apply below_drew1 | refine below_set ?_ GE204.out) | exact HB.out)))); have n2_ := Aside0.mk (blk_below (g := gb204) (o := .cells #[.int .i64 a0_0, .int .i64 a0_1, .int .i64 a0_2, .slice A0_3 l0_3.length c0_3] 27 (0, 0)) (by (with_reducible repeat first | refine blk_drewN ?_ _ | refine blk_drew ?_ | refine blk_alloc ?_ _); exact BK204.out) hb); have n3_ := Aside0.mk (below_step (by repeat (first | (with_reducible first | exact HB.out | apply below_alloc | apply pw_below_drewN | apply below_drew1 | refine below_set ?_ GE204.out) | exact HB.out)) hb); clear HO207; clear BK204; clear HB; have HO207 := n0_; have HO211 := n1_; have BK204 := n2_; have HB := n3_; clear n0_ n1_ n2_ n3_; (try clear hb); (try clear hk); (try clear ho0); have hcz15_0 : w14.cell? ⟨gb204, 0, none⟩ = some (.int .i64 a0_0) := (blk_cell BK204.out 0).trans rfl; have hcz15_1 : w14.cell? ⟨gb204, 1, none⟩ = some (.int .i64 a0_1) := (blk_cell BK204.out 1).trans rfl; have hcz15_2 : w14.cell? ⟨gb204, 2, none⟩ = some (.int .i64 a0_2) := (blk_cell BK204.out 2).trans rfl; have hcz15_3 : w14.cell? ⟨gb204, 3, none⟩ = some (.slice A0_3 l0_3.length c0_3) := (blk_cell BK204.out 3).trans rfl; have hfz15_0 := blk_frozen BK204.out 0; have hfz15_1 := blk_frozen BK204.out 1; have hfz15_2 := blk_frozen BK204.out 2; have hfz15_3 := blk_frozen BK204.out 3) | ((with_reducible refine gate_dst (N := 37) rfl ?_); refine Kd.R_make (Kd.int .i64) _ 3 rfl (N := 37) rfl 23 _ _ rfl ji7 rfl rfl Try.underlying23 (.int .i64 0) 8 info3 rfl (by decide) (by omega) 0 (ok := fun _ => True) (okp := fun _ => True) rfl (fun _ hk => hk) trivial (of_decide_eq_true (by first | (with_reducible assumption) | assumption)) (Nat.le_trans (Nat.mul_le_mul_right _ (of_decide_eq_true (by first | (with_reducible assumption) | assumption) : ji7.toNat ≤ 35184372088832)) (by omega)) (Below.refl _ _) (Nat.le_refl _) ?_; intro v214 w16 ho17 hb hg_ hnew_; clear hg_ hnew_; (first | rw [← Ny213.out] at ho17 | (simp only [Int.reduceToNat] at ho17; rw [← Ny213.out] at ho17)); have n0_ := Aside0.mk (Kd.R_below (by (with_reducible repeat first | apply Kd.R_alloc | apply Kd.R_drewN | apply Kd.R_drew); exact HO207.out) hb); have n1_ := Aside0.mk (Kd.R_below (by (with_reducible repeat first | apply Kd.R_alloc | apply Kd.R_drewN | apply Kd.R_drew); exact HO211.out) hb); have n2_ := Aside0.mk (Kd.R_lower ho17 (below_size (by repeat (first | (with_reducible first | exact HB.out | apply below_alloc | apply pw_below_drewN | apply below_drew1 | refine below_set ?_ GE204.out) | exact HB.out)))); have n3_ := Aside0.mk (blk_below (g := gb204) (o := .cells #[.int .i64 a0_0, .int .i64 a0_1, .int .i64 a0_2, .slice A0_3 l0_3.length c0_3] 27 (0, 0)) (by (with_reducible repeat first | refine blk_drewN ?_ _ | refine blk_drew ?_ | refine blk_alloc ?_ _); exact BK204.out) hb); have n4_ := Aside0.mk (below_step (by repeat (first | (with_reducible first | exact HB.out | apply below_alloc | apply pw_below_drewN | apply below_drew1 | refine below_set ?_ GE204.out) | exact HB.out)) hb); clear HO207; clear HO211; clear BK204; clear HB; have HO207 := n0_; have HO211 := n1_; have HO215 := n2_; have BK204 := n3_; have HB := n4_; clear n0_ n1_ n2_ n3_ n4_; clear hb ho17))
    go_loopg [13] k (fun kq v13 w' => ∃ (x12_1 : List Int) (x13_1 : Int), v13 = .int .i64 x13_1 ∧ Aside0 (q7_Levels.l0 kq a2 t209 x12_1 x13_1 a0_0 a0_1 a0_2 l0_3 = some (r1, r2)) ∧ Aside0 (kq ≤ k) ∧ Aside0 (Kd.R (Kd.int .i64) 2 w' w.heap.size (fun _ => True) v210 t209) ∧ Aside0 (Kd.R (Kd.int .i64) 3 w' w.heap.size (fun _ => True) v214 x12_1) ∧ Aside0 (w'.heap[gb204]? = some (.cells #[.int .i64 a0_0, .int .i64 a0_1, .int .i64 a0_2, (.slice A0_3 l0_3.length c0_3)] 27 (0, 0))) ∧ Aside0 (Below w.heap.size w w'))
    case atStart => exact ⟨(y213), (0), (by first | rfl | (simp; done) | (simp [*]; done)), H', ⟨Nat.le_refl _⟩, ⟨by (with_reducible repeat first | apply Kd.R_alloc | apply Kd.R_drewN | apply Kd.R_drew); exact HO211.out⟩, ⟨by (with_reducible repeat first | apply Kd.R_alloc | apply Kd.R_drewN | apply Kd.R_drew); exact HO215.out⟩, ⟨by (with_reducible repeat first | refine blk_drewN ?_ _ | refine blk_drew ?_ | refine blk_alloc ?_ _); exact BK204.out⟩, ⟨by repeat (first | (with_reducible first | exact HB.out | apply below_alloc | apply pw_below_drewN | apply below_drew1 | refine below_set ?_ GE204.out) | exact HB.out)⟩⟩
    case round =>
     clear H'
     try clear c1
     try clear p2
     try clear c3
     try clear c5
     try clear c5b0
     try clear c5b1
     try clear p6
     try clear c8
     try clear c8b0
     try clear c8b1
     try clear c9
     try clear c9b0
     try clear c9b1
     try clear hcz11_0
     try clear hcz11_1
     try clear hcz11_2
     try clear hcz11_3
     try clear hcz13_0
     try clear hcz13_1
     try clear hcz13_2
     try clear hcz13_3
     try clear hcz15_0
     try clear hcz15_1
     try clear hcz15_2
     try clear hcz15_3
     try clear hfz11_0
     try clear hfz11_1
     try clear hfz11_2
     try clear hfz11_3
     try clear hfz13_0
     try clear hfz13_1
     try clear hfz13_2
     try clear hfz13_3
     try clear hfz15_0
     try clear hfz15_1
     try clear hfz15_2
     try clear hfz15_3
     obtain ⟨x12_1, x13_1, rfl, HA, HK1, HO_10, HO_12, BK204, HB⟩ := hrel
     cases gk with
     | zero => exact absurd HA.out (by simp [q7_Levels.l0])
     | succ k1 =>
      (have H := HA.out);(clear HA);(simp only [q7_Levels.l0] at H)
      by_cases c18 : x13_1 < (x12_1.length : Int)
      ·(rw [if_pos c18] at H);(have c18b0 : decide (x13_1 < (x12_1.length : Int)) = true := decide_eq_true c18);(clear c18)
       by_cases c19 : 0 ≤ x13_1
       ·(rw [if_pos c19] at H);(have c19b0 : decide (0 ≤ x13_1) = true := decide_eq_true c19);(clear c19);(obtain ⟨y216, hy216⟩ : ∃ y_ : List Int, y_ = (x12_1.set (x13_1 : Int).toNat (-1)) := ⟨_, rfl⟩);(replace H : (q7_Levels.l0 k1 a2 t209 y216 (wrap64 (x13_1 + 1)) a0_0 a0_1 a0_2 l0_3) = some (r1, r2) := by first | (rw [hy216]; with_reducible exact H) | (have H2_ := (Option.bind_some _ _).symm.trans H; rw [hy216]; with_reducible exact H2_) | (have H2_ := (Option.bind_some _ _).symm.trans H; with_reducible exact H2_) | with_reducible exact H | (rw [hy216]; exact H) | exact H);(have Ny216 := Aside0.mk hy216);(clear hy216);(have H' := Aside0.mk H);(clear H);(obtain ⟨Ao21, co21, eo21⟩ := Kd.R_slice HO_12.out);(subst eo21);(have p20 : 0 ≤ (x13_1 : Int) := of_decide_eq_true (by first | (with_reducible assumption) | assumption));(have q20 : (x13_1 : Int) < ((x12_1.length : Int) : Int) := of_decide_eq_true (by first | (with_reducible assumption) | assumption));(obtain ⟨go20, co20, eo20, gb20, gl20, cl20, HG20⟩ := Kd.R_form HO_12.out (by omega));((first | cases eo20 | (injection eo20 with ea_ en_ ec_; (first | subst ea_ | (injection ea_ with ea_; subst ea_)); subst ec_; clear en_)));(have GB20 := Aside0.mk gb20);(have GG20 := Aside0.mk HG20);(clear gb20 gl20 HG20);(obtain ⟨hx20_0, hf20_0⟩ := Kd.R_celln 0 HO_12.out (x13_1 : Int) p20 q20);(replace p20 := eq_true p20);(replace q20 := eq_true q20);(have HP22 := Kd.R_putg HO_12.out (x13_1 : Int) (-1))
        go_wp2_with (first | ((with_reducible refine gate_store (t := 3) (p := 46) rfl ?_); refine store_event (t := 3) (p := 46) (v := ?vo_w23) (w1 := (wr.setCell ⟨go20, (x13_1 : Int).toNat, none⟩ (.int .i64 (-1)))) ?hg ?ho ?hn ?hr ?_; (case ho => rfl); (case hg => rfl); (case hn => rfl); (case hr => first | (go_simp; done) | (go_simp; rfl)); intro w23 hw; have hg : wr.grownBy w23 (some go20) := (by rw [hw]; exact HP22.2); have hp_ : Kd.R (Kd.int .i64) 3 w23 w.heap.size (fun _ => True) (.slice (some ⟨go20, 0, none⟩) x12_1.length co21) y216 := (by rw [hw, Ny216.out]; exact HP22.1); clear HP22; have n0_ := Aside0.mk (Kd.R_over' (v := (.slice (some ⟨go20, 0, none⟩) x12_1.length co21)) (by (with_reducible repeat first | apply Kd.R_alloc | apply Kd.R_drewN | apply Kd.R_drew); exact HO_10.out) (Kd.R_typed HO_12.out) (by decide) hg); have n1_ := Aside0.mk (hp_); have n2_ := Aside0.mk (blk_grown (g := gb204) (o := .cells #[.int .i64 a0_0, .int .i64 a0_1, .int .i64 a0_2, .slice A0_3 l0_3.length c0_3] 27 (0, 0)) (by (with_reducible repeat first | refine blk_drewN ?_ _ | refine blk_drew ?_ | refine blk_alloc ?_ _); exact BK204.out) hg (Kd.R_ne HO_12.out BK204.out (by decide))); have n3_ := Aside0.mk ((by rw [hw]; exact below_set (HB.out) GB20.out : Below w.heap.size w w23)); clear HO_10; clear HO_12; clear BK204; clear HB; have HO_10 := n0_; have HO_12 := n1_; have BK204 := n2_; have HB := n3_; clear n0_ n1_ n2_ n3_; clear hg hw hp_))
        go_roundg k1
        case measure => have := HK1.out; omega
        case rel => exact ⟨(y216), (wrap64 (x13_1 + 1)), (by first | rfl | (simp; done) | (simp [*]; done)), H', ⟨by have := HK1.out; omega⟩, ⟨by (with_reducible repeat first | apply Kd.R_alloc | apply Kd.R_drewN | apply Kd.R_drew); exact HO_10.out⟩, ⟨by (with_reducible repeat first | apply Kd.R_alloc | apply Kd.R_drewN | apply Kd.R_drew); exact HO_12.out⟩, ⟨by (with_reducible repeat first | refine blk_drewN ?_ _ | refine blk_drew ?_ | refine blk_alloc ?_ _); exact BK204.out⟩, ⟨by repeat (first | (with_reducible first | exact HB.out | apply below_alloc | apply pw_below_drewN | apply below_drew1 | refine below_set ?_ GE204.out) | exact HB.out)⟩⟩
       ·(rw [if_neg c19] at H);(exact absurd H (by simp))
      ·(rw [if_neg c18] at H);(have c18b0 : decide (x13_1 < (x12_1.length : Int)) = false := decide_eq_false c18);(clear c18)
       by_cases c24 : 0 ≤ a0_1
       ·(rw [if_pos c24] at H);(have c24b0 : decide (0 ≤ a0_1) = true := decide_eq_true c24);(clear c24)
        by_cases c25 : a0_1 < (x12_1.length : Int)
        ·(rw [if_pos c25] at H);(have c25b0 : decide (a0_1 < (x12_1.length : Int)) = true := decide_eq_true c25);(clear c25);(obtain ⟨y217, hy217⟩ : ∃ y_ : List Int, y_ = (x12_1.set (a0_1 : Int).toNat 0) := ⟨_, rfl⟩);(replace H : (q7_Levels.l1 k1 a2 t209 y217 0 a0_0 a0_1 a0_2 l0_3) = some (r1, r2) := by first | (rw [hy217]; with_reducible exact H) | (have H2_ := (Option.bind_some _ _).symm.trans H; rw [hy217]; with_reducible exact H2_) | (have H2_ := (Option.bind_some _ _).symm.trans H; with_reducible exact H2_) | with_reducible exact H | (rw [hy217]; exact H) | exact H);(have Ny217 := Aside0.mk hy217);(clear hy217);(have H' := Aside0.mk H);(clear H);(obtain ⟨Ao27, co27, eo27⟩ := Kd.R_slice HO_12.out);(subst eo27);(have hcz28_0 : wr.cell? ⟨gb204, 0, none⟩ = some (.int .i64 a0_0) := (blk_cell BK204.out 0).trans rfl);(have hcz28_1 : wr.cell? ⟨gb204, 1, none⟩ = some (.int .i64 a0_1) := (blk_cell BK204.out 1).trans rfl);(have hcz28_2 : wr.cell? ⟨gb204, 2, none⟩ = some (.int .i64 a0_2) := (blk_cell BK204.out 2).trans rfl);(have hcz28_3 : wr.cell? ⟨gb204, 3, none⟩ = some (.slice A0_3 l0_3.length c0_3) := (blk_cell BK204.out 3).trans rfl);(have hfz28_0 := blk_frozen BK204.out 0);(have hfz28_1 := blk_frozen BK204.out 1);(have hfz28_2 := blk_frozen BK204.out 2);(have hfz28_3 := blk_frozen BK204.out 3);(have p26 : 0 ≤ (a0_1 : Int) := of_decide_eq_true (by first | (with_reducible assumption) | assumption));(have q26 : (a0_1 : Int) < ((x12_1.length : Int) : Int) := of_decide_eq_true (by first | (with_reducible assumption) | assumption));(obtain ⟨go26, co26, eo26, gb26, gl26, cl26, HG26⟩ := Kd.R_form HO_12.out (by omega));((first | cases eo26 | (injection eo26 with ea_ en_ ec_; (first | subst ea_ | (injection ea_ with ea_; subst ea_)); subst ec_; clear en_)));(have GB26 := Aside0.mk gb26);(have GG26 := Aside0.mk HG26);(clear gb26 gl26 HG26);(obtain ⟨hx26_0, hf26_0⟩ := Kd.R_celln 0 HO_12.out (a0_1 : Int) p26 q26);(replace p26 := eq_true p26);(replace q26 := eq_true q26);(have HP29 := Kd.R_putg HO_12.out (a0_1 : Int) 0)
         go_wp2_with (first | ((with_reducible refine gate_store (t := 3) (p := 50) rfl ?_); refine store_event (t := 3) (p := 50) (v := ?vo_w30) (w1 := (wr.setCell ⟨go26, (a0_1 : Int).toNat, none⟩ (.int .i64 0))) ?hg ?ho ?hn ?hr ?_; (case ho => rfl); (case hg => rfl); (case hn => rfl); (case hr => first | (go_simp; done) | (go_simp; rfl)); intro w30 hw; have hg : wr.grownBy w30 (some go26) := (by rw [hw]; exact HP29.2); have hp_ : Kd.R (Kd.int .i64) 3 w30 w.heap.size (fun _ => True) (.slice (some ⟨go26, 0, none⟩) x12_1.length co27) y217 := (by rw [hw, Ny217.out]; exact HP29.1); clear HP29; have n0_ := Aside0.mk (Kd.R_over' (v := (.slice (some ⟨go26, 0, none⟩) x12_1.length co27)) (by (with_reducible repeat first | apply Kd.R_alloc | apply Kd.R_drewN | apply Kd.R_drew); exact HO_10.out) (Kd.R_typed HO_12.out) (by decide) hg); have n1_ := Aside0.mk (hp_); have n2_ := Aside0.mk (blk_grown (g := gb204) (o := .cells #[.int .i64 a0_0, .int .i64 a0_1, .int .i64 a0_2, .slice A0_3 l0_3.length c0_3] 27 (0, 0)) (by (with_reducible repeat first | refine blk_drewN ?_ _ | refine blk_drew ?_ | refine blk_alloc ?_ _); exact BK204.out) hg (Kd.R_ne HO_12.out BK204.out (by decide))); have n3_ := Aside0.mk ((by rw [hw]; exact below_set (HB.out) GB26.out : Below w.heap.size w w30)); clear HO_10; clear HO_12; clear BK204; clear HB; have HO_10 := n0_; have HO_12 := n1_; have BK204 := n2_; have HB := n3_; clear n0_ n1_ n2_ n3_; clear hg hw hp_))
         go_loopg [14] k1 (fun kq v14 w' => ∃ (x12_2 : List Int) (x14_2 : Int), v14 = .int .i64 x14_2 ∧ Aside0 (q7_Levels.l1 kq a2 t209 x12_2 x14_2 a0_0 a0_1 a0_2 l0_3 = some (r1, r2)) ∧ Aside0 (kq ≤ k1) ∧ Aside0 (Kd.R (Kd.int .i64) 2 w' w.heap.size (fun _ => True) v210 t209) ∧ Aside0 (Kd.R (Kd.int .i64) 3 w' w.heap.size (fun _ => True) (.slice (some ⟨go26, 0, none⟩) x12_1.length co27) x12_2) ∧ Aside0 (w'.heap[gb204]? = some (.cells #[.int .i64 a0_0, .int .i64 a0_1, .int .i64 a0_2, (.slice A0_3 l0_3.length c0_3)] 27 (0, 0))) ∧ Aside0 (Below w.heap.size w w'))
         case atStart => exact ⟨(y217), (0), (by first | rfl | (simp; done) | (simp [*]; done)), H', ⟨Nat.le_refl _⟩, ⟨by (with_reducible repeat first | apply Kd.R_alloc | apply Kd.R_drewN | apply Kd.R_drew); exact HO_10.out⟩, ⟨by (with_reducible repeat first | apply Kd.R_alloc | apply Kd.R_drewN | apply Kd.R_drew); exact HO_12.out⟩, ⟨by (with_reducible repeat first | refine blk_drewN ?_ _ | refine blk_drew ?_ | refine blk_alloc ?_ _); exact BK204.out⟩, ⟨by repeat (first | (with_reducible first | exact HB.out | apply below_alloc | apply pw_below_drewN | apply below_drew1 | refine below_set ?_ GE204.out) | exact HB.out)⟩⟩
         case round =>
          clear H'
          try clear c1
          try clear c2
          try clear p2
          try clear q2
          try clear hx2
          try clear c3
          try clear c5
          try clear c5b0
          try clear c5b1
          try clear p6
          try clear c8
          try clear c8b0
          try clear c8b1
          try clear c9
          try clear c9b0
          try clear c9b1
          try clear c18
          try clear c18b0
          try clear c19
          try clear c19b0
          try clear p20
          try clear q20
          try clear hx20
          try clear hf20
          try clear c24
          try clear c24b0
          try clear c25
          try clear c25b0
          try clear p26
          try clear q26
          try clear hx26
          try clear hf26
          try clear hcz11_0
          try clear hcz11_1
          try clear hcz11_2
          try clear hcz11_3
          try clear hcz13_0
          try clear hcz13_1
          try clear hcz13_2
          try clear hcz13_3
          try clear hcz15_0
          try clear hcz15_1
          try clear hcz15_2
          try clear hcz15_3
          try clear hcz28_0
          try clear hcz28_1
          try clear hcz28_2
          try clear hcz28_3
          try clear hfz11_0
          try clear hfz11_1
          try clear hfz11_2
          try clear hfz11_3
          try clear hfz13_0
          try clear hfz13_1
          try clear hfz13_2
          try clear hfz13_3
          try clear hfz15_0
          try clear hfz15_1
          try clear hfz15_2
          try clear hfz15_3
          try clear hfz28_0
          try clear hfz28_1
          try clear hfz28_2
          try clear hfz28_3
          try clear hx20_0
          try clear hx26_0
          try clear p2
          try clear p20
          try clear p26
          try clear p6
          try clear q20
          try clear q26
          (obtain ⟨x12_2, x14_2, rfl, HA, HK2, HO_10, HO_12, BK204, HB⟩ := hrel);(have hl12_2 := (Kd.R_reads' HO_12.out).1);(rw [hl12_2] at HO_12);((try simp only [hl12_2]));((try simp only [hl12_2] at BK204));((try simp only [hl12_2] at HO_10))
          cases gk with
          | zero => exact absurd HA.out (by simp [q7_Levels.l1])
          | succ k2 =>
           (have H := HA.out);(clear HA);(simp only [q7_Levels.l1] at H)
           by_cases c31 : x14_2 < a0_0
           ·(rw [if_pos c31] at H);(have c31b0 : decide (x14_2 < a0_0) = true := decide_eq_true c31);(clear c31);(have H' := Aside0.mk H);(clear H);(have hcz32_0 : wr.cell? ⟨gb204, 0, none⟩ = some (.int .i64 a0_0) := (blk_cell BK204.out 0).trans rfl);(have hcz32_1 : wr.cell? ⟨gb204, 1, none⟩ = some (.int .i64 a0_1) := (blk_cell BK204.out 1).trans rfl);(have hcz32_2 : wr.cell? ⟨gb204, 2, none⟩ = some (.int .i64 a0_2) := (blk_cell BK204.out 2).trans rfl);(have hcz32_3 : wr.cell? ⟨gb204, 3, none⟩ = some (.slice A0_3 l0_3.length c0_3) := (blk_cell BK204.out 3).trans rfl);(have hfz32_0 := blk_frozen BK204.out 0);(have hfz32_1 := blk_frozen BK204.out 1);(have hfz32_2 := blk_frozen BK204.out 2);(have hfz32_3 := blk_frozen BK204.out 3)
            go_wp2
            go_loopg [15] k2 (fun kq v15 w' => ∃ (x12_3 : List Int) (x15_3 : Int), v15 = .int .i64 x15_3 ∧ Aside0 (q7_Levels.l2 kq a2 t209 x12_3 x14_2 x15_3 a0_0 a0_1 a0_2 l0_3 = some (r1, r2)) ∧ Aside0 (kq ≤ k2) ∧ Aside0 (Kd.R (Kd.int .i64) 2 w' w.heap.size (fun _ => True) v210 t209) ∧ Aside0 (Kd.R (Kd.int .i64) 3 w' w.heap.size (fun _ => True) (.slice (some ⟨go26, 0, none⟩) x12_2.length co27) x12_3) ∧ Aside0 (w'.heap[gb204]? = some (.cells #[.int .i64 a0_0, .int .i64 a0_1, .int .i64 a0_2, (.slice A0_3 l0_3.length c0_3)] 27 (0, 0))) ∧ Aside0 (Below w.heap.size w w'))
            case atStart => exact ⟨(x12_2), (0), (by first | rfl | (simp; done) | (simp [*]; done)), H', ⟨Nat.le_refl _⟩, ⟨by (try simp only [hl12_2]); (with_reducible repeat first | apply Kd.R_alloc | apply Kd.R_drewN | apply Kd.R_drew); exact HO_10.out⟩, ⟨by (try simp only [hl12_2]); (with_reducible repeat first | apply Kd.R_alloc | apply Kd.R_drewN | apply Kd.R_drew); exact HO_12.out⟩, ⟨by (try simp only [hl12_2]); (with_reducible repeat first | refine blk_drewN ?_ _ | refine blk_drew ?_ | refine blk_alloc ?_ _); exact BK204.out⟩, ⟨by repeat (first | (with_reducible first | exact HB.out | apply below_alloc | apply pw_below_drewN | apply below_drew1 | refine below_set ?_ GE204.out) | exact HB.out)⟩⟩
            case round =>
             clear H'
             try clear c1
             try clear c2
             try clear p2
             try clear q2
             try clear hx2
             try clear c3
             try clear c5
             try clear c5b0
             try clear c5b1
             try clear p6
             try clear c8
             try clear c8b0
             try clear c8b1
             try clear c9
             try clear c9b0
             try clear c9b1
             try clear c18
             try clear c18b0
             try clear c19
             try clear c19b0
             try clear p20
             try clear q20
             try clear hx20
             try clear hf20
             try clear c24
             try clear c24b0
             try clear c25
             try clear c25b0
             try clear p26
             try clear q26
             try clear hx26
             try clear hf26
             try clear c31
             try clear c31b0
             try clear hcz11_0
             try clear hcz11_1
             try clear hcz11_2
             try clear hcz11_3
             try clear hcz13_0
             try clear hcz13_1
             try clear hcz13_2
             try clear hcz13_3
             try clear hcz15_0
             try clear hcz15_1
             try clear hcz15_2
             try clear hcz15_3
             try clear hcz28_0
             try clear hcz28_1
             try clear hcz28_2
             try clear hcz28_3
             try clear hcz32_0
             try clear hcz32_1
             try clear hcz32_2
             try clear hcz32_3
             try clear hfz11_0
             try clear hfz11_1
             try clear hfz11_2
             try clear hfz11_3
             try clear hfz13_0
             try clear hfz13_1
             try clear hfz13_2
             try clear hfz13_3
             try clear hfz15_0
             try clear hfz15_1
             try clear hfz15_2
             try clear hfz15_3
             try clear hfz28_0
             try clear hfz28_1
             try clear hfz28_2
             try clear hfz28_3
             try clear hfz32_0
             try clear hfz32_1
             try clear hfz32_2
             try clear hfz32_3
             try clear hx20_0
             try clear hx26_0
             try clear p2
             try clear p20
             try clear p26
             try clear p6
             try clear q2
             try clear q20
             try clear q26
             (obtain ⟨x12_3, x15_3, rfl, HA, HK3, HO_10, HO_12, BK204, HB⟩ := hrel);(have hl12_3 := (Kd.R_reads' HO_12.out).1);(rw [hl12_3] at HO_12);((try simp only [hl12_3]));((try simp only [hl12_3] at BK204));((try simp only [hl12_3] at HO_10))
             cases gk with
             | zero => exact absurd HA.out (by simp [q7_Levels.l2])
             | succ k3 =>
              (have H := HA.out);(clear HA);(simp only [q7_Levels.l2] at H)
              by_cases c33 : x15_3 < (t209.length : Int)
              ·(rw [if_pos c33] at H);(have c33b0 : decide (x15_3 < (t209.length : Int)) = true := decide_eq_true c33);(clear c33);(replace H := Option.bind_eq_some_iff.mp H);(obtain ⟨⟨t218, t219⟩, A340, H⟩ := H);(replace H : (if 0 ≤ x15_3 then (if (rd t209 x15_3) ≥ a2 then (if 0 ≤ t218 then (if t218 < (x12_3.length : Int) then (if (rd x12_3 t218) = x14_2 then (if 0 ≤ t219 then (if t219 < (x12_3.length : Int) then (if (rd x12_3 t219) < 0 then (q7_Levels.l2 k3 a2 t209 (x12_3.set (t219 : Int).toNat (wrap64 (x14_2 + 1))) x14_2 (wrap64 (x15_3 + 1)) a0_0 a0_1 a0_2 l0_3) else (q7_Levels.l2 k3 a2 t209 x12_3 x14_2 (wrap64 (x15_3 + 1)) a0_0 a0_1 a0_2 l0_3)) else (none)) else (none)) else (q7_Levels.l2 k3 a2 t209 x12_3 x14_2 (wrap64 (x15_3 + 1)) a0_0 a0_1 a0_2 l0_3)) else (none)) else (none)) else (q7_Levels.l2 k3 a2 t209 x12_3 x14_2 (wrap64 (x15_3 + 1)) a0_0 a0_1 a0_2 l0_3)) else (none)) = some (r1, r2) := H);(have A34 := Aside0.mk A340);(clear A340)
               by_cases c35 : 0 ≤ x15_3
               ·(rw [if_pos c35] at H);(have c35b0 : decide (0 ≤ x15_3) = true := decide_eq_true c35);(clear c35)
                by_cases c36 : (rd t209 x15_3) ≥ a2
                ·(rw [if_pos c36] at H);(have c36b0 : decide (a2 ≤ (rd t209 x15_3)) = true := decide_eq_true c36);(clear c36)
                 by_cases c37 : 0 ≤ t218
                 ·(rw [if_pos c37] at H);(have c37b0 : decide (0 ≤ t218) = true := decide_eq_true c37);(clear c37)
                  by_cases c38 : t218 < (x12_3.length : Int)
                  ·(rw [if_pos c38] at H);(have c38b0 : decide (t218 < (x12_3.length : Int)) = true := decide_eq_true c38);(clear c38)
                   by_cases c39 : (rd x12_3 t218) = x14_2
                   ·(rw [if_pos c39] at H);(have c39b0 : ((rd x12_3 t218) == x14_2) = true := beq_iff_eq.mpr c39);(have c39b1 : ((rd x12_3 t218) != x14_2) = false := bne_eq_false_iff_eq.mpr c39);(clear c39)
                    by_cases c40 : 0 ≤ t219
                    ·(rw [if_pos c40] at H);(have c40b0 : decide (0 ≤ t219) = true := decide_eq_true c40);(clear c40)
                     by_cases c41 : t219 < (x12_3.length : Int)
                     ·(rw [if_pos c41] at H);(have c41b0 : decide (t219 < (x12_3.length : Int)) = true := decide_eq_true c41);(clear c41)
                      by_cases c42 : (rd x12_3 t219) < 0
                      ·(rw [if_pos c42] at H);(have c42b0 : decide ((rd x12_3 t219) < 0) = true := decide_eq_true c42);(clear c42);(obtain ⟨y223, hy223⟩ : ∃ y_ : List Int, y_ = (x12_3.set (t219 : Int).toNat (wrap64 (x14_2 + 1))) := ⟨_, rfl⟩);(replace H : (q7_Levels.l2 k3 a2 t209 y223 x14_2 (wrap64 (x15_3 + 1)) a0_0 a0_1 a0_2 l0_3) = some (r1, r2) := by first | (rw [hy223]; with_reducible exact H) | (have H2_ := (Option.bind_some _ _).symm.trans H; rw [hy223]; with_reducible exact H2_) | (have H2_ := (Option.bind_some _ _).symm.trans H; with_reducible exact H2_) | with_reducible exact H | (rw [hy223]; exact H) | exact H);(have Ny223 := Aside0.mk hy223);(clear hy223);(have H' := Aside0.mk H);(clear H);(obtain ⟨Ao44, co44, eo44⟩ := Kd.R_slice HO_10.out);(subst eo44);(have hcz45_0 : wr.cell? ⟨gb204, 0, none⟩ = some (.int .i64 a0_0) := (blk_cell BK204.out 0).trans rfl);(have hcz45_1 : wr.cell? ⟨gb204, 1, none⟩ = some (.int .i64 a0_1) := (blk_cell BK204.out 1).trans rfl);(have hcz45_2 : wr.cell? ⟨gb204, 2, none⟩ = some (.int .i64 a0_2) := (blk_cell BK204.out 2).trans rfl);(have hcz45_3 : wr.cell? ⟨gb204, 3, none⟩ = some (.slice A0_3 l0_3.length c0_3) := (blk_cell BK204.out 3).trans rfl);(have hfz45_0 := blk_frozen BK204.out 0);(have hfz45_1 := blk_frozen BK204.out 1);(have hfz45_2 := blk_frozen BK204.out 2);(have hfz45_3 := blk_frozen BK204.out 3)
                       go_wp2_with (first | ((with_reducible refine gate_callee (f := 40) rfl ?_); refine goesL_ (some 66) rfl rfl Try.func40 (by kernel_rfl) rfl #[.agg #[.int .i64 a0_0, .int .i64 a0_1, .int .i64 a0_2, .slice A0_3 l0_3.length c0_3], .int .i64 x15_3] rfl (by (try simp only [List.map_toArray, List.map_cons, List.map_nil]); first | done | rfl | (simp only [List.length_drop, List.length_take]; rfl)) ?_; (with_reducible refine (q6_Ends.calls k3 a0_0 a0_1 a0_2 _ _ l0_3 x15_3 t218 t219 _ ?side1 ?side2 A34.out).mono ?_); (case side1 => repeat (first | exact (Kd.C_below HR0_3.out HB.out) | (with_reducible refine Kd.C_alloc ?_ _) | (with_reducible refine Kd.C_drewN ?_ _) | (with_reducible refine Kd.C_drew ?_))); (case side2 => exact HC0_3.out); rintro e w46 ⟨rfl, hb⟩; refine ⟨_, rfl, ?_⟩; have n0_ := Aside0.mk (Kd.R_below (by (with_reducible repeat first | apply Kd.R_alloc | apply Kd.R_drewN | apply Kd.R_drew); exact HO_10.out) hb); have n1_ := Aside0.mk (Kd.R_below (by (with_reducible repeat first | apply Kd.R_alloc | apply Kd.R_drewN | apply Kd.R_drew); exact HO_12.out) hb); have n2_ := Aside0.mk (blk_below (g := gb204) (o := .cells #[.int .i64 a0_0, .int .i64 a0_1, .int .i64 a0_2, .slice A0_3 l0_3.length c0_3] 27 (0, 0)) (by (with_reducible repeat first | refine blk_drewN ?_ _ | refine blk_drew ?_ | refine blk_alloc ?_ _); exact BK204.out) hb); have n3_ := Aside0.mk (below_step (by repeat (first | (with_reducible first | exact HB.out | apply below_alloc | apply pw_below_drewN | apply below_drew1 | refine below_set ?_ GE204.out) | exact HB.out)) hb); clear HO_10; clear HO_12; clear BK204; clear HB; have HO_10 := n0_; have HO_12 := n1_; have BK204 := n2_; have HB := n3_; clear n0_ n1_ n2_ n3_; (try clear hb); (try clear hk); have p220 : 0 ≤ (x15_3 : Int) := of_decide_eq_true (by first | (with_reducible assumption) | assumption); have q220 : x15_3 < (t209.length : Int) := of_decide_eq_true (by first | (with_reducible assumption) | assumption); obtain ⟨ad220, e220, hx220_0⟩ := Kd.at_int (Kd.R_reads' HO_10.out).2.2 x15_3 p220 q220; cases e220; replace p220 := eq_true p220; replace q220 := eq_true q220; have p221 : 0 ≤ (t218 : Int) := of_decide_eq_true (by first | (with_reducible assumption) | assumption); have q221 : t218 < (x12_3.length : Int) := of_decide_eq_true (by first | (with_reducible assumption) | assumption); obtain ⟨ad221, e221, hx221_0⟩ := Kd.at_int (Kd.R_reads' HO_12.out).2.2 t218 p221 q221; obtain rfl : (⟨go26, 0, none⟩ : Addr) = ad221 := (by injection e221); (first | simp only [add_plain] at hx221_0 | simp only [add_at] at hx221_0 | simp only [Addr.add, Nat.zero_add] at hx221_0 | skip); replace p221 := eq_true p221; replace q221 := eq_true q221; have p222 : 0 ≤ (t219 : Int) := of_decide_eq_true (by first | (with_reducible assumption) | assumption); have q222 : t219 < (x12_3.length : Int) := of_decide_eq_true (by first | (with_reducible assumption) | assumption); obtain ⟨ad222, e222, hx222_0⟩ := Kd.at_int (Kd.R_reads' HO_12.out).2.2 t219 p222 q222; obtain rfl : (⟨go26, 0, none⟩ : Addr) = ad222 := (by injection e222); (first | simp only [add_plain] at hx222_0 | simp only [add_at] at hx222_0 | simp only [Addr.add, Nat.zero_add] at hx222_0 | skip); replace p222 := eq_true p222; replace q222 := eq_true q222; have p43 : 0 ≤ (t219 : Int) := of_decide_eq_true (by first | (with_reducible assumption) | assumption); have q43 : (t219 : Int) < ((x12_3.length : Int) : Int) := of_decide_eq_true (by first | (with_reducible assumption) | assumption); obtain ⟨hx43_0, hf43_0⟩ := Kd.R_celln 0 HO_12.out (t219 : Int) p43 q43; replace p43 := eq_true p43; replace q43 := eq_true q43; obtain ⟨hy47_, hz47_⟩ := Kd.R_celln 0 HO_12.out (t219 : Int) (of_decide_eq_true (by first | (with_reducible assumption) | assumption)) (of_decide_eq_true (by first | (with_reducible assumption) | assumption)); have HP47 := Kd.R_putg HO_12.out (t219 : Int) (wrap64 (x14_2 + 1))) | ((with_reducible refine gate_store (t := 3) (p := 94) rfl ?_); refine store_event (t := 3) (p := 94) (v := ?vo_w48) (w1 := (w46.setCell ⟨go26, (t219 : Int).toNat, none⟩ (.int .i64 (wrap64 (x14_2 + 1))))) ?hg ?ho ?hn ?hr ?_; (case ho => rfl); (case hg => rfl); (case hn => rfl); (case hr => first | (go_simp; done) | (go_simp; rfl)); intro w48 hw; have hg : w46.grownBy w48 (some go26) := (by rw [hw]; exact HP47.2); have hp_ : Kd.R (Kd.int .i64) 3 w48 w.heap.size (fun _ => True) (.slice (some ⟨go26, 0, none⟩) x12_3.length co27) y223 := (by rw [hw, Ny223.out]; exact HP47.1); clear HP47; have n0_ := Aside0.mk (Kd.R_over' (v := (.slice (some ⟨go26, 0, none⟩) x12_3.length co27)) (by (with_reducible repeat first | apply Kd.R_alloc | apply Kd.R_drewN | apply Kd.R_drew); exact HO_10.out) (Kd.R_typed HO_12.out) (by decide) hg); have n1_ := Aside0.mk (hp_); have n2_ := Aside0.mk (blk_grown (g := gb204) (o := .cells #[.int .i64 a0_0, .int .i64 a0_1, .int .i64 a0_2, .slice A0_3 l0_3.length c0_3] 27 (0, 0)) (by (with_reducible repeat first | refine blk_drewN ?_ _ | refine blk_drew ?_ | refine blk_alloc ?_ _); exact BK204.out) hg (Kd.R_ne HO_12.out BK204.out (by decide))); have n3_ := Aside0.mk ((by rw [hw]; exact below_set (HB.out) GB26.out : Below w.heap.size w w48)); clear HO_10; clear HO_12; clear BK204; clear HB; have HO_10 := n0_; have HO_12 := n1_; have BK204 := n2_; have HB := n3_; clear n0_ n1_ n2_ n3_; clear hg hw hp_))
                       (try simp only [← hl12_3])
                       go_roundg k3
                       case measure => have := HK1.out; have := HK2.out; have := HK3.out; omega
                       case rel => exact ⟨(y223), (wrap64 (x15_3 + 1)), (by first | rfl | (simp; done) | (simp [*]; done)), H', ⟨by have := HK1.out; have := HK2.out; have := HK3.out; omega⟩, ⟨by (try simp only [hl12_2]); (try simp only [hl12_3]); (with_reducible repeat first | apply Kd.R_alloc | apply Kd.R_drewN | apply Kd.R_drew); exact HO_10.out⟩, ⟨by (try simp only [hl12_2]); (try simp only [hl12_3]); (with_reducible repeat first | apply Kd.R_alloc | apply Kd.R_drewN | apply Kd.R_drew); exact HO_12.out⟩, ⟨by (try simp only [hl12_2]); (try simp only [hl12_3]); (with_reducible repeat first | refine blk_drewN ?_ _ | refine blk_drew ?_ | refine blk_alloc ?_ _); exact BK204.out⟩, ⟨by repeat (first | (with_reducible first | exact HB.out | apply below_alloc | apply pw_below_drewN | apply below_drew1 | refine below_set ?_ GE204.out) | exact HB.out)⟩⟩
                      ·(rw [if_neg c42] at H);(have c42b0 : decide ((rd x12_3 t219) < 0) = false := decide_eq_false c42);(clear c42);(have H' := Aside0.mk H);(clear H);(obtain ⟨Ao49, co49, eo49⟩ := Kd.R_slice HO_10.out);(subst eo49);(have hcz50_0 : wr.cell? ⟨gb204, 0, none⟩ = some (.int .i64 a0_0) := (blk_cell BK204.out 0).trans rfl);(have hcz50_1 : wr.cell? ⟨gb204, 1, none⟩ = some (.int .i64 a0_1) := (blk_cell BK204.out 1).trans rfl);(have hcz50_2 : wr.cell? ⟨gb204, 2, none⟩ = some (.int .i64 a0_2) := (blk_cell BK204.out 2).trans rfl);(have hcz50_3 : wr.cell? ⟨gb204, 3, none⟩ = some (.slice A0_3 l0_3.length c0_3) := (blk_cell BK204.out 3).trans rfl);(have hfz50_0 := blk_frozen BK204.out 0);(have hfz50_1 := blk_frozen BK204.out 1);(have hfz50_2 := blk_frozen BK204.out 2);(have hfz50_3 := blk_frozen BK204.out 3)
                       go_wp2_with (first | ((with_reducible refine gate_callee (f := 40) rfl ?_); refine goesL_ (some 66) rfl rfl Try.func40 (by kernel_rfl) rfl #[.agg #[.int .i64 a0_0, .int .i64 a0_1, .int .i64 a0_2, .slice A0_3 l0_3.length c0_3], .int .i64 x15_3] rfl (by (try simp only [List.map_toArray, List.map_cons, List.map_nil]); first | done | rfl | (simp only [List.length_drop, List.length_take]; rfl)) ?_; (with_reducible refine (q6_Ends.calls k3 a0_0 a0_1 a0_2 _ _ l0_3 x15_3 t218 t219 _ ?side1 ?side2 A34.out).mono ?_); (case side1 => repeat (first | exact (Kd.C_below HR0_3.out HB.out) | (with_reducible refine Kd.C_alloc ?_ _) | (with_reducible refine Kd.C_drewN ?_ _) | (with_reducible refine Kd.C_drew ?_))); (case side2 => exact HC0_3.out); rintro e w51 ⟨rfl, hb⟩; refine ⟨_, rfl, ?_⟩; have n0_ := Aside0.mk (Kd.R_below (by (with_reducible repeat first | apply Kd.R_alloc | apply Kd.R_drewN | apply Kd.R_drew); exact HO_10.out) hb); have n1_ := Aside0.mk (Kd.R_below (by (with_reducible repeat first | apply Kd.R_alloc | apply Kd.R_drewN | apply Kd.R_drew); exact HO_12.out) hb); have n2_ := Aside0.mk (blk_below (g := gb204) (o := .cells #[.int .i64 a0_0, .int .i64 a0_1, .int .i64 a0_2, .slice A0_3 l0_3.length c0_3] 27 (0, 0)) (by (with_reducible repeat first | refine blk_drewN ?_ _ | refine blk_drew ?_ | refine blk_alloc ?_ _); exact BK204.out) hb); have n3_ := Aside0.mk (below_step (by repeat (first | (with_reducible first | exact HB.out | apply below_alloc | apply pw_below_drewN | apply below_drew1 | refine below_set ?_ GE204.out) | exact HB.out)) hb); clear HO_10; clear HO_12; clear BK204; clear HB; have HO_10 := n0_; have HO_12 := n1_; have BK204 := n2_; have HB := n3_; clear n0_ n1_ n2_ n3_; (try clear hb); (try clear hk); have p220 : 0 ≤ (x15_3 : Int) := of_decide_eq_true (by first | (with_reducible assumption) | assumption); have q220 : x15_3 < (t209.length : Int) := of_decide_eq_true (by first | (with_reducible assumption) | assumption); obtain ⟨ad220, e220, hx220_0⟩ := Kd.at_int (Kd.R_reads' HO_10.out).2.2 x15_3 p220 q220; cases e220; replace p220 := eq_true p220; replace q220 := eq_true q220; have p221 : 0 ≤ (t218 : Int) := of_decide_eq_true (by first | (with_reducible assumption) | assumption); have q221 : t218 < (x12_3.length : Int) := of_decide_eq_true (by first | (with_reducible assumption) | assumption); obtain ⟨ad221, e221, hx221_0⟩ := Kd.at_int (Kd.R_reads' HO_12.out).2.2 t218 p221 q221; obtain rfl : (⟨go26, 0, none⟩ : Addr) = ad221 := (by injection e221); (first | simp only [add_plain] at hx221_0 | simp only [add_at] at hx221_0 | simp only [Addr.add, Nat.zero_add] at hx221_0 | skip); replace p221 := eq_true p221; replace q221 := eq_true q221; have p222 : 0 ≤ (t219 : Int) := of_decide_eq_true (by first | (with_reducible assumption) | assumption); have q222 : t219 < (x12_3.length : Int) := of_decide_eq_true (by first | (with_reducible assumption) | assumption); obtain ⟨ad222, e222, hx222_0⟩ := Kd.at_int (Kd.R_reads' HO_12.out).2.2 t219 p222 q222; obtain rfl : (⟨go26, 0, none⟩ : Addr) = ad222 := (by injection e222); (first | simp only [add_plain] at hx222_0 | simp only [add_at] at hx222_0 | simp only [Addr.add, Nat.zero_add] at hx222_0 | skip); replace p222 := eq_true p222; replace q222 := eq_true q222))
                       (try simp only [← hl12_3])
                       go_roundg k3
                       case measure => have := HK1.out; have := HK2.out; have := HK3.out; omega
                       case rel => exact ⟨(x12_3), (wrap64 (x15_3 + 1)), (by first | rfl | (simp; done) | (simp [*]; done)), H', ⟨by have := HK1.out; have := HK2.out; have := HK3.out; omega⟩, ⟨by (try simp only [hl12_2]); (try simp only [hl12_3]); (with_reducible repeat first | apply Kd.R_alloc | apply Kd.R_drewN | apply Kd.R_drew); exact HO_10.out⟩, ⟨by (try simp only [hl12_2]); (try simp only [hl12_3]); (with_reducible repeat first | apply Kd.R_alloc | apply Kd.R_drewN | apply Kd.R_drew); exact HO_12.out⟩, ⟨by (try simp only [hl12_2]); (try simp only [hl12_3]); (with_reducible repeat first | refine blk_drewN ?_ _ | refine blk_drew ?_ | refine blk_alloc ?_ _); exact BK204.out⟩, ⟨by repeat (first | (with_reducible first | exact HB.out | apply below_alloc | apply pw_below_drewN | apply below_drew1 | refine below_set ?_ GE204.out) | exact HB.out)⟩⟩
                     ·(rw [if_neg c41] at H);(exact absurd H (by simp))
                    ·(rw [if_neg c40] at H);(exact absurd H (by simp))
                   ·(rw [if_neg c39] at H);(have c39b0 : ((rd x12_3 t218) == x14_2) = false := beq_eq_false_iff_ne.mpr c39);(have c39b1 : ((rd x12_3 t218) != x14_2) = true := bne_iff_ne.mpr c39);(have H' := Aside0.mk H);(clear H);(obtain ⟨Ao52, co52, eo52⟩ := Kd.R_slice HO_10.out);(subst eo52);(have hcz53_0 : wr.cell? ⟨gb204, 0, none⟩ = some (.int .i64 a0_0) := (blk_cell BK204.out 0).trans rfl);(have hcz53_1 : wr.cell? ⟨gb204, 1, none⟩ = some (.int .i64 a0_1) := (blk_cell BK204.out 1).trans rfl);(have hcz53_2 : wr.cell? ⟨gb204, 2, none⟩ = some (.int .i64 a0_2) := (blk_cell BK204.out 2).trans rfl);(have hcz53_3 : wr.cell? ⟨gb204, 3, none⟩ = some (.slice A0_3 l0_3.length c0_3) := (blk_cell BK204.out 3).trans rfl);(have hfz53_0 := blk_frozen BK204.out 0);(have hfz53_1 := blk_frozen BK204.out 1);(have hfz53_2 := blk_frozen BK204.out 2);(have hfz53_3 := blk_frozen BK204.out 3)
                    go_wp2_with (first | ((with_reducible refine gate_callee (f := 40) rfl ?_); refine goesL_ (some 66) rfl rfl Try.func40 (by kernel_rfl) rfl #[.agg #[.int .i64 a0_0, .int .i64 a0_1, .int .i64 a0_2, .slice A0_3 l0_3.length c0_3], .int .i64 x15_3] rfl (by (try simp only [List.map_toArray, List.map_cons, List.map_nil]); first | done | rfl | (simp only [List.length_drop, List.length_take]; rfl)) ?_; (with_reducible refine (q6_Ends.calls k3 a0_0 a0_1 a0_2 _ _ l0_3 x15_3 t218 t219 _ ?side1 ?side2 A34.out).mono ?_); (case side1 => repeat (first | exact (Kd.C_below HR0_3.out HB.out) | (with_reducible refine Kd.C_alloc ?_ _) | (with_reducible refine Kd.C_drewN ?_ _) | (with_reducible refine Kd.C_drew ?_))); (case side2 => exact HC0_3.out); rintro e w54 ⟨rfl, hb⟩; refine ⟨_, rfl, ?_⟩; have n0_ := Aside0.mk (Kd.R_below (by (with_reducible repeat first | apply Kd.R_alloc | apply Kd.R_drewN | apply Kd.R_drew); exact HO_10.out) hb); have n1_ := Aside0.mk (Kd.R_below (by (with_reducible repeat first | apply Kd.R_alloc | apply Kd.R_drewN | apply Kd.R_drew); exact HO_12.out) hb); have n2_ := Aside0.mk (blk_below (g := gb204) (o := .cells #[.int .i64 a0_0, .int .i64 a0_1, .int .i64 a0_2, .slice A0_3 l0_3.length c0_3] 27 (0, 0)) (by (with_reducible repeat first | refine blk_drewN ?_ _ | refine blk_drew ?_ | refine blk_alloc ?_ _); exact BK204.out) hb); have n3_ := Aside0.mk (below_step (by repeat (first | (with_reducible first | exact HB.out | apply below_alloc | apply pw_below_drewN | apply below_drew1 | refine below_set ?_ GE204.out) | exact HB.out)) hb); clear HO_10; clear HO_12; clear BK204; clear HB; have HO_10 := n0_; have HO_12 := n1_; have BK204 := n2_; have HB := n3_; clear n0_ n1_ n2_ n3_; (try clear hb); (try clear hk); have p220 : 0 ≤ (x15_3 : Int) := of_decide_eq_true (by first | (with_reducible assumption) | assumption); have q220 : x15_3 < (t209.length : Int) := of_decide_eq_true (by first | (with_reducible assumption) | assumption); obtain ⟨ad220, e220, hx220_0⟩ := Kd.at_int (Kd.R_reads' HO_10.out).2.2 x15_3 p220 q220; cases e220; replace p220 := eq_true p220; replace q220 := eq_true q220; have p221 : 0 ≤ (t218 : Int) := of_decide_eq_true (by first | (with_reducible assumption) | assumption); have q221 : t218 < (x12_3.length : Int) := of_decide_eq_true (by first | (with_reducible assumption) | assumption); obtain ⟨ad221, e221, hx221_0⟩ := Kd.at_int (Kd.R_reads' HO_12.out).2.2 t218 p221 q221; obtain rfl : (⟨go26, 0, none⟩ : Addr) = ad221 := (by injection e221); (first | simp only [add_plain] at hx221_0 | simp only [add_at] at hx221_0 | simp only [Addr.add, Nat.zero_add] at hx221_0 | skip); replace p221 := eq_true p221; replace q221 := eq_true q221))
                    (try simp only [← hl12_3])
                    go_roundg k3
                    case measure => have := HK1.out; have := HK2.out; have := HK3.out; omega
                    case rel => exact ⟨(x12_3), (wrap64 (x15_3 + 1)), (by first | rfl | (simp; done) | (simp [*]; done)), H', ⟨by have := HK1.out; have := HK2.out; have := HK3.out; omega⟩, ⟨by (try simp only [hl12_2]); (try simp only [hl12_3]); (with_reducible repeat first | apply Kd.R_alloc | apply Kd.R_drewN | apply Kd.R_drew); exact HO_10.out⟩, ⟨by (try simp only [hl12_2]); (try simp only [hl12_3]); (with_reducible repeat first | apply Kd.R_alloc | apply Kd.R_drewN | apply Kd.R_drew); exact HO_12.out⟩, ⟨by (try simp only [hl12_2]); (try simp only [hl12_3]); (with_reducible repeat first | refine blk_drewN ?_ _ | refine blk_drew ?_ | refine blk_alloc ?_ _); exact BK204.out⟩, ⟨by repeat (first | (with_reducible first | exact HB.out | apply below_alloc | apply pw_below_drewN | apply below_drew1 | refine below_set ?_ GE204.out) | exact HB.out)⟩⟩
                  ·(rw [if_neg c38] at H);(exact absurd H (by simp))
                 ·(rw [if_neg c37] at H);(exact absurd H (by simp))
                ·(rw [if_neg c36] at H);(have c36b0 : decide (a2 ≤ (rd t209 x15_3)) = false := decide_eq_false c36);(clear c36);(have H' := Aside0.mk H);(clear H);(obtain ⟨Ao55, co55, eo55⟩ := Kd.R_slice HO_10.out);(subst eo55);(have hcz56_0 : wr.cell? ⟨gb204, 0, none⟩ = some (.int .i64 a0_0) := (blk_cell BK204.out 0).trans rfl);(have hcz56_1 : wr.cell? ⟨gb204, 1, none⟩ = some (.int .i64 a0_1) := (blk_cell BK204.out 1).trans rfl);(have hcz56_2 : wr.cell? ⟨gb204, 2, none⟩ = some (.int .i64 a0_2) := (blk_cell BK204.out 2).trans rfl);(have hcz56_3 : wr.cell? ⟨gb204, 3, none⟩ = some (.slice A0_3 l0_3.length c0_3) := (blk_cell BK204.out 3).trans rfl);(have hfz56_0 := blk_frozen BK204.out 0);(have hfz56_1 := blk_frozen BK204.out 1);(have hfz56_2 := blk_frozen BK204.out 2);(have hfz56_3 := blk_frozen BK204.out 3)
                 go_wp2_with (first | ((with_reducible refine gate_callee (f := 40) rfl ?_); refine goesL_ (some 66) rfl rfl Try.func40 (by kernel_rfl) rfl #[.agg #[.int .i64 a0_0, .int .i64 a0_1, .int .i64 a0_2, .slice A0_3 l0_3.length c0_3], .int .i64 x15_3] rfl (by (try simp only [List.map_toArray, List.map_cons, List.map_nil]); first | done | rfl | (simp only [List.length_drop, List.length_take]; rfl)) ?_; (with_reducible refine (q6_Ends.calls k3 a0_0 a0_1 a0_2 _ _ l0_3 x15_3 t218 t219 _ ?side1 ?side2 A34.out).mono ?_); (case side1 => repeat (first | exact (Kd.C_below HR0_3.out HB.out) | (with_reducible refine Kd.C_alloc ?_ _) | (with_reducible refine Kd.C_drewN ?_ _) | (with_reducible refine Kd.C_drew ?_))); (case side2 => exact HC0_3.out); rintro e w57 ⟨rfl, hb⟩; refine ⟨_, rfl, ?_⟩; have n0_ := Aside0.mk (Kd.R_below (by (with_reducible repeat first | apply Kd.R_alloc | apply Kd.R_drewN | apply Kd.R_drew); exact HO_10.out) hb); have n1_ := Aside0.mk (Kd.R_below (by (with_reducible repeat first | apply Kd.R_alloc | apply Kd.R_drewN | apply Kd.R_drew); exact HO_12.out) hb); have n2_ := Aside0.mk (blk_below (g := gb204) (o := .cells #[.int .i64 a0_0, .int .i64 a0_1, .int .i64 a0_2, .slice A0_3 l0_3.length c0_3] 27 (0, 0)) (by (with_reducible repeat first | refine blk_drewN ?_ _ | refine blk_drew ?_ | refine blk_alloc ?_ _); exact BK204.out) hb); have n3_ := Aside0.mk (below_step (by repeat (first | (with_reducible first | exact HB.out | apply below_alloc | apply pw_below_drewN | apply below_drew1 | refine below_set ?_ GE204.out) | exact HB.out)) hb); clear HO_10; clear HO_12; clear BK204; clear HB; have HO_10 := n0_; have HO_12 := n1_; have BK204 := n2_; have HB := n3_; clear n0_ n1_ n2_ n3_; (try clear hb); (try clear hk); have p220 : 0 ≤ (x15_3 : Int) := of_decide_eq_true (by first | (with_reducible assumption) | assumption); have q220 : x15_3 < (t209.length : Int) := of_decide_eq_true (by first | (with_reducible assumption) | assumption); obtain ⟨ad220, e220, hx220_0⟩ := Kd.at_int (Kd.R_reads' HO_10.out).2.2 x15_3 p220 q220; cases e220; replace p220 := eq_true p220; replace q220 := eq_true q220))
                 (try simp only [← hl12_3])
                 go_roundg k3
                 case measure => have := HK1.out; have := HK2.out; have := HK3.out; omega
                 case rel => exact ⟨(x12_3), (wrap64 (x15_3 + 1)), (by first | rfl | (simp; done) | (simp [*]; done)), H', ⟨by have := HK1.out; have := HK2.out; have := HK3.out; omega⟩, ⟨by (try simp only [hl12_2]); (try simp only [hl12_3]); (with_reducible repeat first | apply Kd.R_alloc | apply Kd.R_drewN | apply Kd.R_drew); exact HO_10.out⟩, ⟨by (try simp only [hl12_2]); (try simp only [hl12_3]); (with_reducible repeat first | apply Kd.R_alloc | apply Kd.R_drewN | apply Kd.R_drew); exact HO_12.out⟩, ⟨by (try simp only [hl12_2]); (try simp only [hl12_3]); (with_reducible repeat first | refine blk_drewN ?_ _ | refine blk_drew ?_ | refine blk_alloc ?_ _); exact BK204.out⟩, ⟨by repeat (first | (with_reducible first | exact HB.out | apply below_alloc | apply pw_below_drewN | apply below_drew1 | refine below_set ?_ GE204.out) | exact HB.out)⟩⟩
               ·(rw [if_neg c35] at H);(exact absurd H (by simp))
              ·(rw [if_neg c33] at H);(have c33b0 : decide (x15_3 < (t209.length : Int)) = false := decide_eq_false c33);(clear c33);(have H' := Aside0.mk H);(clear H);(obtain ⟨Ao58, co58, eo58⟩ := Kd.R_slice HO_10.out);(subst eo58)
               go_wp2
               (try simp only [← hl12_2, ← hl12_3])
               go_roundg k3
               case measure => have := HK1.out; have := HK2.out; have := HK3.out; omega
               case rel => exact ⟨(x12_3), (wrap64 (x14_2 + 1)), (by first | rfl | (simp; done) | (simp [*]; done)), H', ⟨by have := HK1.out; have := HK2.out; have := HK3.out; omega⟩, ⟨by (try simp only [hl12_2]); (try simp only [hl12_3]); (with_reducible repeat first | apply Kd.R_alloc | apply Kd.R_drewN | apply Kd.R_drew); exact HO_10.out⟩, ⟨by (try simp only [hl12_2]); (try simp only [hl12_3]); (with_reducible repeat first | apply Kd.R_alloc | apply Kd.R_drewN | apply Kd.R_drew); exact HO_12.out⟩, ⟨by (try simp only [hl12_2]); (try simp only [hl12_3]); (with_reducible repeat first | refine blk_drewN ?_ _ | refine blk_drew ?_ | refine blk_alloc ?_ _); exact BK204.out⟩, ⟨by repeat (first | (with_reducible first | exact HB.out | apply below_alloc | apply pw_below_drewN | apply below_drew1 | refine below_set ?_ GE204.out) | exact HB.out)⟩⟩
           ·(rw [if_neg c31] at H);(have c31b0 : decide (x14_2 < a0_0) = false := decide_eq_false c31);(clear c31);(simp only [Option.some.injEq, Prod.mk.injEq] at H);(obtain ⟨rfl, rfl⟩ := H);(have hcz59_0 : wr.cell? ⟨gb204, 0, none⟩ = some (.int .i64 a0_0) := (blk_cell BK204.out 0).trans rfl);(have hcz59_1 : wr.cell? ⟨gb204, 1, none⟩ = some (.int .i64 a0_1) := (blk_cell BK204.out 1).trans rfl);(have hcz59_2 : wr.cell? ⟨gb204, 2, none⟩ = some (.int .i64 a0_2) := (blk_cell BK204.out 2).trans rfl);(have hcz59_3 : wr.cell? ⟨gb204, 3, none⟩ = some (.slice A0_3 l0_3.length c0_3) := (blk_cell BK204.out 3).trans rfl);(have hfz59_0 := blk_frozen BK204.out 0);(have hfz59_1 := blk_frozen BK204.out 1);(have hfz59_2 := blk_frozen BK204.out 2);(have hfz59_3 := blk_frozen BK204.out 3)
            go_wp2
            go_ret2
            exact ⟨_, by first | rfl | (simp [errW_none, errW_some] <;> rfl) | (simp only [← hji7]; first | rfl | (simp [errW_none, errW_some] <;> rfl)) | (simp [*, errW_none, errW_some] <;> rfl), by (with_reducible repeat first | apply Kd.R_alloc | apply Kd.R_drewN | apply Kd.R_drew); exact HO_12.out, by repeat (first | (with_reducible first | exact HB.out | apply below_alloc | apply pw_below_drewN | apply below_drew1 | refine below_set ?_ GE204.out) | exact HB.out)⟩
        ·(rw [if_neg c25] at H);(exact absurd H (by simp))
       ·(rw [if_neg c24] at H);(exact absurd H (by simp))
   ·(rw [if_neg c9] at H);(exact absurd H (by simp))
  ·rw [if_neg c8] at H
   exact absurd H (by simp)
 ·rw [if_neg c5] at H
  have c5b0 : (t208 == 0) = false := beq_eq_false_iff_ne.mpr c5
  have c5b1 : (t208 != 0) = true := bne_iff_ne.mpr c5
  simp only [Option.some.injEq, Prod.mk.injEq] at H
  obtain ⟨rfl, rfl⟩ := H
  go_enter Try.func31, Try.ntmps31
  go_wp2_with (first | ((with_reducible refine gate_dst (N := 3) rfl ?_); refine box_event ?hg (N := 3) ?hd (cs := #[.int .i64 a0_0, .int .i64 a0_1, .int .i64 a0_2, .slice A0_3 l0_3.length c0_3]) (t := 27) ?hr ?_; (case hd => rfl); (case hg => rfl); (case hr => first | (go_simp; done) | (go_simp; rfl)); intro gb204 hg w60 hbox hb; have n0_ := Aside0.mk (below_step (by repeat (first | (with_reducible first | exact HB.out | apply below_alloc | apply pw_below_drewN | apply below_drew1) | exact HB.out)) hb); have n1_ := Aside0.mk (hbox); have n2_ := Aside0.mk ((by rw [hg]; exact (below_size (by repeat (first | (with_reducible first | exact HB.out | apply below_alloc | apply pw_below_drewN | apply below_drew1) | exact HB.out))) : w.heap.size ≤ gb204)); have n3_ := Aside0.mk ((by rw [hg]; exact (below_size (by repeat (first | (with_reducible first | exact HB.out | apply below_alloc | apply pw_below_drewN | apply below_drew1) | exact HB.out))) : w.heap.size ≤ gb204)); clear HB; have HB := n0_; have BK204 := n1_; have GW204 := n2_; have GE204 := n3_; clear n0_ n1_ n2_ n3_; clear hb hbox hg; have hcz61_0 : w60.cell? ⟨gb204, 0, none⟩ = some (.int .i64 a0_0) := (blk_cell BK204.out 0).trans rfl; have hcz61_1 : w60.cell? ⟨gb204, 1, none⟩ = some (.int .i64 a0_1) := (blk_cell BK204.out 1).trans rfl; have hcz61_2 : w60.cell? ⟨gb204, 2, none⟩ = some (.int .i64 a0_2) := (blk_cell BK204.out 2).trans rfl; have hcz61_3 : w60.cell? ⟨gb204, 3, none⟩ = some (.slice A0_3 l0_3.length c0_3) := (blk_cell BK204.out 3).trans rfl; have hfz61_0 := blk_frozen BK204.out 0; have hfz61_1 := blk_frozen BK204.out 1; have hfz61_2 := blk_frozen BK204.out 2; have hfz61_3 := blk_frozen BK204.out 3) | ((with_reducible refine gate_callee (f := 38) rfl ?_); refine goesL_ (some 22) rfl rfl Try.func38 (by kernel_rfl) rfl #[.agg #[.int .i64 a0_0, .int .i64 a0_1, .int .i64 a0_2, .slice A0_3 l0_3.length c0_3], .slice A1 l1.length c1, .int .i64 a2] rfl (by (try simp only [List.map_toArray, List.map_cons, List.map_nil]); first | done | rfl | (simp only [List.length_drop, List.length_take]; rfl)) ?_; (with_reducible refine (q6_Reach.calls k a0_0 a0_1 a0_2 _ _ l0_3 _ _ l1 a2 t205 t208 _ ?side1 ?side2 ?side3 ?side4 A4.out).mono ?_); (case side1 => repeat (first | exact (Kd.C_below HR0_3.out HB.out) | (with_reducible refine Kd.C_alloc ?_ _) | (with_reducible refine Kd.C_drewN ?_ _) | (with_reducible refine Kd.C_drew ?_))); (case side2 => exact HC0_3.out); (case side3 => repeat (first | exact (Kd.C_below HR1.out HB.out) | (with_reducible refine Kd.C_alloc ?_ _) | (with_reducible refine Kd.C_drewN ?_ _) | (with_reducible refine Kd.C_drew ?_))); (case side4 => exact HC1.out); rintro e w62 ⟨v206, rfl, ho0, hb⟩; refine ⟨_, rfl, ?_⟩; have n0_ := Aside0.mk (Kd.R_lower ho0 (below_size (by repeat (first | (with_reducible first | exact HB.out | apply below_alloc | apply pw_below_drewN | apply below_drew1 | refine below_set ?_ GE204.out) | exact HB.out)))); have n1_ := Aside0.mk (blk_below (g := gb204) (o := .cells #[.int .i64 a0_0, .int .i64 a0_1, .int .i64 a0_2, .slice A0_3 l0_3.length c0_3] 27 (0, 0)) (by (with_reducible repeat first | refine blk_drewN ?_ _ | refine blk_drew ?_ | refine blk_alloc ?_ _); exact BK204.out) hb); have n2_ := Aside0.mk (below_step (by repeat (first | (with_reducible first | exact HB.out | apply below_alloc | apply pw_below_drewN | apply below_drew1 | refine below_set ?_ GE204.out) | exact HB.out)) hb); clear BK204; clear HB; have HO207 := n0_; have BK204 := n1_; have HB := n2_; clear n0_ n1_ n2_; (try clear hb); (try clear hk); (try clear ho0)))
  go_ret2
  exact ⟨_, by first | rfl | (simp [errW_none, errW_some] <;> rfl) | (simp [*, errW_none, errW_some] <;> rfl), by first | exact Kd.R_nil _ _ _ _ _ | exact Kd.N_nil _ _ _ _ _ | exact Kd.V_nil _ _ _ _ _ | exact Kd.Q_nil _ _ _ _ _ | exact Kd.S_nil _ _ _ _ _, by repeat (first | (with_reducible first | exact HB.out | apply below_alloc | apply pw_below_drewN | apply below_drew1 | refine below_set ?_ GE204.out) | exact HB.out)⟩
end Go.Proofs.Ytbppeffcikphcaa.PLevelTells
