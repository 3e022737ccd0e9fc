/- For the law ResidualTells, for every input: printed by a program (wip/myprint), contracts by hand where it says MANUAL. -/
-- slim
import Derived.Test.YtbppeffcikphcaaPResidualTellsx0
import Derived.Test.YtbppeffcikphcaaPResidualTellsx18
import Derived.Test.YtbppeffcikphcaaPResidualTellsx19
namespace Go.Proofs.Ytbppeffcikphcaa.PResidualTells
open Go.RowKit Go.Proofs.YtbppeffcikphcaaW.PrintWords Go.Proofs.YtbppeffcikphcaaW.PrintLast Go.Proofs.YtbppeffcikphcaaW.PrintMore
attribute [local go_sem] max2_int min2_int max_two min_two max_three min_three max_four min_four
set_option linter.unusedVariables false
set_option linter.unusedSimpArgs false
/-! ### racewayref6_Reach: function 38 -/
mutual
def racewayref6_Reach.l0 : Nat → Int → List Int → List Bool → Bool → Int → Int → Int → List (S49) → Option (List Bool × Int)
 | 0, _, _, _, _, _, _, _, _ => none
 | k + 1, x2, x8, x10, x11, x226000, x226001, x226002, x226003 => if x11 = true then (racewayref6_Reach.l1 k x2 x8 x10 false 0 x226000 x226001 x226002 x226003) else (some (x10, 0))
def racewayref6_Reach.l1 : Nat → Int → List Int → List Bool → Bool → Int → Int → Int → Int → List (S49) → Option (List Bool × Int)
 | 0, _, _, _, _, _, _, _, _, _ => none
 | k + 1, x2, x8, x10, x11, x12, x226000, x226001, x226002, x226003 => if x12 < (x8.length : Int) then ((racewayref6_Ends.f k x226000 x226001 x226002 x226003 x12).bind fun bt234 => (if 0 ≤ x12 then (if (rd x8 x12) ≥ x2 then (if 0 ≤ bt234.1 then (if bt234.1 < (x10.length : Int) then (if rdOf false x10 bt234.1 = true then (if 0 ≤ bt234.2 then (if bt234.2 < (x10.length : Int) then (if rdOf false x10 bt234.2 = true then (racewayref6_Reach.l1 k x2 x8 x10 x11 (wrap64 (x12 + 1)) x226000 x226001 x226002 x226003) else (racewayref6_Reach.l1 k x2 x8 (x10.set (bt234.2 : Int).toNat true) true (wrap64 (x12 + 1)) x226000 x226001 x226002 x226003)) else (none)) else (none)) else (racewayref6_Reach.l1 k x2 x8 x10 x11 (wrap64 (x12 + 1)) x226000 x226001 x226002 x226003)) else (none)) else (none)) else (racewayref6_Reach.l1 k x2 x8 x10 x11 (wrap64 (x12 + 1)) x226000 x226001 x226002 x226003)) else (none))) else (racewayref6_Reach.l0 k x2 x8 x10 x11 x226000 x226001 x226002 x226003)
end
def racewayref6_Reach.f (k : Nat) (a0_0 : Int) (a0_1 : Int) (a0_2 : Int) (l0_3 : List (S49)) (l1 : List Int) (a2 : Int) : Option (List Bool × Int) := (racewayref6_Room.f k a0_0 a0_1 a0_2 l0_3 l1).bind fun bt226 => (if bt226.2 = 0 then (if a2 < 1 then (some (([] : List Bool), 3)) else (if 0 ≤ (wrap64 (a0_0 + 1)) then (if (wrap64 (a0_0 + 1) : Int).toNat ≤ 281474976710656 then ((some (List.replicate (wrap64 (a0_0 + 1) : Int).toNat false : List Bool)).bind fun y230 => (if 0 ≤ a0_1 then (if a0_1 < (y230.length : Int) then (racewayref6_Reach.l0 k a2 bt226.1 (y230.set (a0_1 : Int).toNat true) true a0_0 a0_1 a0_2 l0_3) else (none)) else (none))) else (none)) else (none))) else (some (([] : List Bool), bt226.2)))
theorem racewayref6_Reach.mono_l : ∀ k, (∀ y0 y1 y2 y3 y4 y5 y6 y7, LeO (racewayref6_Reach.l0 k y0 y1 y2 y3 y4 y5 y6 y7) (racewayref6_Reach.l0 (k + 1) y0 y1 y2 y3 y4 y5 y6 y7)) ∧ (∀ y0 y1 y2 y3 y4 y5 y6 y7 y8, LeO (racewayref6_Reach.l1 k y0 y1 y2 y3 y4 y5 y6 y7 y8) (racewayref6_Reach.l1 (k + 1) y0 y1 y2 y3 y4 y5 y6 y7 y8))
 | 0 => ⟨fun _ _ _ _ _ _ _ _ r h => by simp [racewayref6_Reach.l0] at h, fun _ _ _ _ _ _ _ _ _ r h => by simp [racewayref6_Reach.l1] at h⟩
 | k + 1 => by
  obtain ⟨ih0, ih1⟩ := racewayref6_Reach.mono_l k
  refine ⟨?_, ?_⟩
  ·intro y0 y1 y2 y3 y4 y5 y6 y7
   unfold racewayref6_Reach.l0
   repeat' first
   | (with_reducible exact ih0 _ _ _ _ _ _ _ _)
   | (with_reducible exact ih1 _ _ _ _ _ _ _ _ _)
   | (with_reducible exact racewayref6_Ends.mono _ _ _ _ _ _)
   | (with_reducible exact racewayref6_Room.mono _ _ _ _ _ _)
   | (with_reducible exact LeO.refl _)
   | (with_reducible exact LeO.none _)
   | (with_reducible refine LeO.ite ?_ ?_)
   | (with_reducible refine LeO.bind ?_ (fun _ => ?_))
   | exact ih0 _ _ _ _ _ _ _ _
   | exact ih1 _ _ _ _ _ _ _ _ _
   | exact racewayref6_Ends.mono _ _ _ _ _ _
   | exact racewayref6_Room.mono _ _ _ _ _ _
   | exact LeO.none _
   | refine LeO.ite ?_ ?_
   | refine LeO.bind ?_ (fun _ => ?_)
  ·intro y0 y1 y2 y3 y4 y5 y6 y7 y8
   unfold racewayref6_Reach.l1
   repeat' first
   | (with_reducible exact ih0 _ _ _ _ _ _ _ _)
   | (with_reducible exact ih1 _ _ _ _ _ _ _ _ _)
   | (with_reducible exact racewayref6_Ends.mono _ _ _ _ _ _)
   | (with_reducible exact racewayref6_Room.mono _ _ _ _ _ _)
   | (with_reducible exact LeO.refl _)
   | (with_reducible exact LeO.none _)
   | (with_reducible refine LeO.ite ?_ ?_)
   | (with_reducible refine LeO.bind ?_ (fun _ => ?_))
   | exact ih0 _ _ _ _ _ _ _ _
   | exact ih1 _ _ _ _ _ _ _ _ _
   | exact racewayref6_Ends.mono _ _ _ _ _ _
   | exact racewayref6_Room.mono _ _ _ _ _ _
   | exact LeO.none _
   | refine LeO.ite ?_ ?_
   | refine LeO.bind ?_ (fun _ => ?_)
theorem racewayref6_Reach.mono : ∀ a0 a1 a2 a3 a4 a5 k, LeO (racewayref6_Reach.f k a0 a1 a2 a3 a4 a5) (racewayref6_Reach.f (k + 1) a0 a1 a2 a3 a4 a5) := by
 intro a0 a1 a2 a3 a4 a5 k
 obtain ⟨ih0, ih1⟩ := racewayref6_Reach.mono_l k
 unfold racewayref6_Reach.f
 repeat' first
   | (with_reducible exact ih0 _ _ _ _ _ _ _ _)
   | (with_reducible exact ih1 _ _ _ _ _ _ _ _ _)
   | (with_reducible exact racewayref6_Ends.mono _ _ _ _ _ _)
   | (with_reducible exact racewayref6_Room.mono _ _ _ _ _ _)
   | (with_reducible exact LeO.refl _)
   | (with_reducible exact LeO.none _)
   | (with_reducible refine LeO.ite ?_ ?_)
   | (with_reducible refine LeO.bind ?_ (fun _ => ?_))
   | exact ih0 _ _ _ _ _ _ _ _
   | exact ih1 _ _ _ _ _ _ _ _ _
   | exact racewayref6_Ends.mono _ _ _ _ _ _
   | exact racewayref6_Room.mono _ _ _ _ _ _
   | exact LeO.none _
   | refine LeO.ite ?_ ?_
   | refine LeO.bind ?_ (fun _ => ?_)
set_option maxHeartbeats 8000000 in
set_option maxRecDepth 100000 in
theorem racewayref6_Reach.calls (k : Nat) (a0_0 : Int) (a0_1 : Int) (a0_2 : Int) (A0_3 : Option Addr) (c0_3 : Nat) (l0_3 : List (S49)) (A1 : Option Addr) (c1 : Nat) (l1 : List Int) (a2 : Int) (r1 : List Bool) (r2 : Int) (w : World) (hr0_3 : Kd.C k49 w A0_3 l0_3.length l0_3) (hc0_3 : l0_3.length ≤ c0_3) (hr1 : Kd.C (Kd.int .i64) w A1 l1.length l1) (hc1 : l1.length ≤ c1) (h : racewayref6_Reach.f k a0_0 a0_1 a0_2 l0_3 l1 a2 = some (r1, r2)) :
  Calls Try.prog 38 #[.agg #[.int .i64 a0_0, .int .i64 a0_1, .int .i64 a0_2, .slice A0_3 l0_3.length c0_3], .slice A1 l1.length c1, .int .i64 a2] w fun e w' => ∃ v0_ : Value, e = .returned (.tuple #[v0_, .int .i64 r2]) ∧ Kd.R Kd.bool 4 w' w.heap.size (fun _ => True) v0_ r1 ∧ Below w.heap.size w w' := by
 have hu27 := Try.underlying27
 have HR0_3 := Aside0.mk hr0_3
 have HC0_3 := Aside0.mk hc0_3
 clear hr0_3 hc0_3
 have HR1 := Aside0.mk hr1
 have HC1 := Aside0.mk hc1
 clear hr1 hc1
 have HB := Aside0.mk (Below.refl w.heap.size w)
 have H : ((racewayref6_Room.f k a0_0 a0_1 a0_2 l0_3 l1).bind fun bt226 => (if bt226.2 = 0 then (if a2 < 1 then (some (([] : List Bool), 3)) else (if 0 ≤ (wrap64 (a0_0 + 1)) then (if (wrap64 (a0_0 + 1) : Int).toNat ≤ 281474976710656 then ((some (List.replicate (wrap64 (a0_0 + 1) : Int).toNat false : List Bool)).bind fun y230 => (if 0 ≤ a0_1 then (if a0_1 < (y230.length : Int) then (racewayref6_Reach.l0 k a2 bt226.1 (y230.set (a0_1 : Int).toNat true) true a0_0 a0_1 a0_2 l0_3) else (none)) else (none))) else (none)) else (none))) else (some (([] : List Bool), bt226.2)))) = some (r1, r2) := h
 clear h
 replace H := Option.bind_eq_some_iff.mp H
 obtain ⟨⟨t226, t229⟩, A40, H⟩ := H
 replace H : (if t229 = 0 then (if a2 < 1 then (some (([] : List Bool), 3)) else (if 0 ≤ (wrap64 (a0_0 + 1)) then (if (wrap64 (a0_0 + 1) : Int).toNat ≤ 281474976710656 then ((some (List.replicate (wrap64 (a0_0 + 1) : Int).toNat false : List Bool)).bind fun y230 => (if 0 ≤ a0_1 then (if a0_1 < (y230.length : Int) then (racewayref6_Reach.l0 k a2 t226 (y230.set (a0_1 : Int).toNat true) true a0_0 a0_1 a0_2 l0_3) else (none)) else (none))) else (none)) else (none))) else (some (([] : List Bool), t229))) = some (r1, r2) := H
 have A4 := Aside0.mk A40
 clear A40
 by_cases c5 : t229 = 0
 ·rw [if_pos c5] at H
  have c5b0 : (t229 == 0) = true := beq_iff_eq.mpr c5
  have c5b1 : (t229 != 0) = false := bne_eq_false_iff_eq.mpr c5
  clear c5
  by_cases c6 : a2 < 1
  ·rw [if_pos c6] at H
   (have c6b0 : decide (a2 < 1) = true := decide_eq_true c6);(clear c6)
   as_aux_lemma =>
    (simp only [Option.some.injEq, Prod.mk.injEq] at H);(obtain ⟨rfl, rfl⟩ := H)
    go_enter Try.func38, Try.ntmps38
    go_wp2_with (first | ((with_reducible refine gate_dst (N := 3) rfl ?_); refine box_event ?hg (N := 3) ?hd (cs := #[.int .i64 a0_0, .int .i64 a0_1, .int .i64 a0_2, .slice A0_3 l0_3.length c0_3]) (t := 27) ?hr ?_; (case hd => rfl); (case hg => rfl); (case hr => first | (go_simp; done) | (go_simp; rfl)); intro gb225 hg w7 hbox hb; have n0_ := Aside0.mk (below_step (by repeat (first | (with_reducible first | exact HB.out | apply below_alloc | apply pw_below_drewN | apply below_drew1) | exact HB.out)) hb); have n1_ := Aside0.mk (hbox); have n2_ := Aside0.mk ((by rw [hg]; exact (below_size (by repeat (first | (with_reducible first | exact HB.out | apply below_alloc | apply pw_below_drewN | apply below_drew1) | exact HB.out))) : w.heap.size ≤ gb225)); have n3_ := Aside0.mk ((by rw [hg]; exact (below_size (by repeat (first | (with_reducible first | exact HB.out | apply below_alloc | apply pw_below_drewN | apply below_drew1) | exact HB.out))) : w.heap.size ≤ gb225)); clear HB; have HB := n0_; have BK225 := n1_; have GW225 := n2_; have GE225 := n3_; clear n0_ n1_ n2_ n3_; clear hb hbox hg; have hcz8_0 : w7.cell? ⟨gb225, 0, none⟩ = some (.int .i64 a0_0) := (blk_cell BK225.out 0).trans rfl; have hcz8_1 : w7.cell? ⟨gb225, 1, none⟩ = some (.int .i64 a0_1) := (blk_cell BK225.out 1).trans rfl; have hcz8_2 : w7.cell? ⟨gb225, 2, none⟩ = some (.int .i64 a0_2) := (blk_cell BK225.out 2).trans rfl; have hcz8_3 : w7.cell? ⟨gb225, 3, none⟩ = some (.slice A0_3 l0_3.length c0_3) := (blk_cell BK225.out 3).trans rfl; have hfz8_0 := blk_frozen BK225.out 0; have hfz8_1 := blk_frozen BK225.out 1; have hfz8_2 := blk_frozen BK225.out 2; have hfz8_3 := blk_frozen BK225.out 3) | ((with_reducible refine gate_callee (f := 36) rfl ?_); refine goesL_ (some 18) rfl rfl Try.func36 (by kernel_rfl) rfl #[.agg #[.int .i64 a0_0, .int .i64 a0_1, .int .i64 a0_2, .slice A0_3 l0_3.length c0_3], .slice A1 l1.length c1] rfl (by (try simp only [List.map_toArray, List.map_cons, List.map_nil]); first | done | rfl | (simp only [List.length_drop, List.length_take]; rfl)) ?_; (with_reducible refine (racewayref6_Room.calls k a0_0 a0_1 a0_2 _ _ l0_3 _ _ l1 t226 t229 _ ?side1 ?side2 ?side3 ?side4 A4.out).mono ?_); (case side1 => repeat (first | exact (Kd.C_below HR0_3.out HB.out) | (with_reducible refine Kd.C_alloc ?_ _) | (with_reducible refine Kd.C_drewN ?_ _) | (with_reducible refine Kd.C_drew ?_))); (case side2 => exact HC0_3.out); (case side3 => repeat (first | exact (Kd.C_below HR1.out HB.out) | (with_reducible refine Kd.C_alloc ?_ _) | (with_reducible refine Kd.C_drewN ?_ _) | (with_reducible refine Kd.C_drew ?_))); (case side4 => exact HC1.out); rintro e w9 ⟨v227, rfl, ho0, hb⟩; refine ⟨_, rfl, ?_⟩; have n0_ := Aside0.mk (Kd.R_lower ho0 (below_size (by repeat (first | (with_reducible first | exact HB.out | apply below_alloc | apply pw_below_drewN | apply below_drew1 | refine below_set ?_ GE225.out) | exact HB.out)))); have n1_ := Aside0.mk (blk_below (g := gb225) (o := .cells #[.int .i64 a0_0, .int .i64 a0_1, .int .i64 a0_2, .slice A0_3 l0_3.length c0_3] 27 (0, 0)) (by (with_reducible repeat first | refine blk_drewN ?_ _ | refine blk_drew ?_ | refine blk_alloc ?_ _); exact BK225.out) hb); have n2_ := Aside0.mk (below_step (by repeat (first | (with_reducible first | exact HB.out | apply below_alloc | apply pw_below_drewN | apply below_drew1 | refine below_set ?_ GE225.out) | exact HB.out)) hb); clear BK225; clear HB; have HO228 := n0_; have BK225 := n1_; have HB := n2_; clear n0_ n1_ n2_; (try clear hb); (try clear hk); (try clear ho0)))
    go_ret2
    exact ⟨_, by first | rfl | (simp [errW_none, errW_some] <;> rfl) | (simp [*, errW_none, errW_some] <;> rfl), by first | exact Kd.R_nil _ _ _ _ _ | exact Kd.N_nil _ _ _ _ _ | exact Kd.V_nil _ _ _ _ _ | exact Kd.Q_nil _ _ _ _ _ | exact Kd.S_nil _ _ _ _ _, by repeat (first | (with_reducible first | exact HB.out | apply below_alloc | apply pw_below_drewN | apply below_drew1 | refine below_set ?_ GE225.out) | exact HB.out)⟩
  ·rw [if_neg c6] at H
   (have c6b0 : decide (a2 < 1) = false := decide_eq_false c6);(clear c6);(obtain ⟨ji10, hji10⟩ : ∃ j_ : Int, (wrap64 (a0_0 + 1)) = j_ := ⟨_, rfl⟩);(replace H : (if 0 ≤ (ji10) then (if (ji10 : Int).toNat ≤ 281474976710656 then ((some (List.replicate (ji10 : Int).toNat false : List Bool)).bind fun y230 => (if 0 ≤ a0_1 then (if a0_1 < (y230.length : Int) then (racewayref6_Reach.l0 k a2 t226 (y230.set (a0_1 : Int).toNat true) true a0_0 a0_1 a0_2 l0_3) else (none)) else (none))) else (none)) else (none)) = some (r1, r2) := by first | (rw [hji10] at H; exact H) | (simp only [hji10] at H ⊢; exact H));((try rw [hji10] at A4));(have hji10w : (IntKind.i64.wrap (a0_0 + 1)) = ji10 := (i64_w _).trans hji10)
   by_cases c11 : 0 ≤ (ji10)
   ·(rw [if_pos c11] at H);(have c11b0 := eq_true c11);(have c11b1 : decide (0 ≤ (ji10)) = true := decide_eq_true c11);(clear c11)
    by_cases c12 : (ji10 : Int).toNat ≤ 281474976710656
    ·(rw [if_pos c12] at H);(have c12b0 := eq_true c12);(have c12b1 : decide ((ji10 : Int).toNat ≤ 281474976710656) = true := decide_eq_true c12);(clear c12);(obtain ⟨y230, hy230⟩ : ∃ y_ : List Bool, y_ = (List.replicate (ji10 : Int).toNat false) := ⟨_, rfl⟩);(replace H : (if 0 ≤ a0_1 then (if a0_1 < (y230.length : Int) then (racewayref6_Reach.l0 k a2 t226 (y230.set (a0_1 : Int).toNat true) true a0_0 a0_1 a0_2 l0_3) else (none)) else (none)) = some (r1, r2) := by first | (rw [hy230]; with_reducible exact H) | (have H2_ := (Option.bind_some _ _).symm.trans H; rw [hy230]; with_reducible exact H2_) | (have H2_ := (Option.bind_some _ _).symm.trans H; with_reducible exact H2_) | with_reducible exact H | (rw [hy230]; exact H) | exact H);(have Ny230 := Aside0.mk hy230);(clear hy230)
     by_cases c13 : 0 ≤ a0_1
     ·(rw [if_pos c13] at H);(have c13b0 : decide (0 ≤ a0_1) = true := decide_eq_true c13);(clear c13)
      by_cases c14 : a0_1 < (y230.length : Int)
      ·(rw [if_pos c14] at H);(have c14b0 : decide (a0_1 < (y230.length : Int)) = true := decide_eq_true c14);(clear c14);(obtain ⟨y233, hy233⟩ : ∃ y_ : List Bool, y_ = (y230.set (a0_1 : Int).toNat true) := ⟨_, rfl⟩);(replace H : (racewayref6_Reach.l0 k a2 t226 y233 true a0_0 a0_1 a0_2 l0_3) = some (r1, r2) := by first | (rw [hy233]; with_reducible exact H) | (have H2_ := (Option.bind_some _ _).symm.trans H; rw [hy233]; with_reducible exact H2_) | (have H2_ := (Option.bind_some _ _).symm.trans H; with_reducible exact H2_) | with_reducible exact H | (rw [hy233]; exact H) | exact H);(have Ny233 := Aside0.mk hy233);(clear hy233);(have H' := Aside0.mk H);(clear H)
       go_enter Try.func38, Try.ntmps38
       go_wp2_with (first | ((with_reducible refine gate_dst (N := 3) rfl ?_); refine box_event ?hg (N := 3) ?hd (cs := #[.int .i64 a0_0, .int .i64 a0_1, .int .i64 a0_2, .slice A0_3 l0_3.length c0_3]) (t := 27) ?hr ?_; (case hd => rfl); (case hg => rfl); (case hr => first | (go_simp; done) | (go_simp; rfl)); intro gb225 hg w16 hbox hb; have n0_ := Aside0.mk (below_step (by repeat (first | (with_reducible first | exact HB.out | apply below_alloc | apply pw_below_drewN | apply below_drew1) | exact HB.out)) hb); have n1_ := Aside0.mk (hbox); have n2_ := Aside0.mk ((by rw [hg]; exact (below_size (by repeat (first | (with_reducible first | exact HB.out | apply below_alloc | apply pw_below_drewN | apply below_drew1) | exact HB.out))) : w.heap.size ≤ gb225)); have n3_ := Aside0.mk ((by rw [hg]; exact (below_size (by repeat (first | (with_reducible first | exact HB.out | apply below_alloc | apply pw_below_drewN | apply below_drew1) | exact HB.out))) : w.heap.size ≤ gb225)); clear HB; have HB := n0_; have BK225 := n1_; have GW225 := n2_; have GE225 := n3_; clear n0_ n1_ n2_ n3_; clear hb hbox hg; have hcz17_0 : w16.cell? ⟨gb225, 0, none⟩ = some (.int .i64 a0_0) := (blk_cell BK225.out 0).trans rfl; have hcz17_1 : w16.cell? ⟨gb225, 1, none⟩ = some (.int .i64 a0_1) := (blk_cell BK225.out 1).trans rfl; have hcz17_2 : w16.cell? ⟨gb225, 2, none⟩ = some (.int .i64 a0_2) := (blk_cell BK225.out 2).trans rfl; have hcz17_3 : w16.cell? ⟨gb225, 3, none⟩ = some (.slice A0_3 l0_3.length c0_3) := (blk_cell BK225.out 3).trans rfl; have hfz17_0 := blk_frozen BK225.out 0; have hfz17_1 := blk_frozen BK225.out 1; have hfz17_2 := blk_frozen BK225.out 2; have hfz17_3 := blk_frozen BK225.out 3) | ((with_reducible refine gate_callee (f := 36) rfl ?_); refine goesL_ (some 18) rfl rfl Try.func36 (by kernel_rfl) rfl #[.agg #[.int .i64 a0_0, .int .i64 a0_1, .int .i64 a0_2, .slice A0_3 l0_3.length c0_3], .slice A1 l1.length c1] rfl (by (try simp only [List.map_toArray, List.map_cons, List.map_nil]); first | done | rfl | (simp only [List.length_drop, List.length_take]; rfl)) ?_; (with_reducible refine (racewayref6_Room.calls k a0_0 a0_1 a0_2 _ _ l0_3 _ _ l1 t226 t229 _ ?side1 ?side2 ?side3 ?side4 A4.out).mono ?_); (case side1 => repeat (first | exact (Kd.C_below HR0_3.out HB.out) | (with_reducible refine Kd.C_alloc ?_ _) | (with_reducible refine Kd.C_drewN ?_ _) | (with_reducible refine Kd.C_drew ?_))); (case side2 => exact HC0_3.out); (case side3 => repeat (first | exact (Kd.C_below HR1.out HB.out) | (with_reducible refine Kd.C_alloc ?_ _) | (with_reducible refine Kd.C_drewN ?_ _) | (with_reducible refine Kd.C_drew ?_))); (case side4 => exact HC1.out); rintro e w18 ⟨v227, rfl, ho0, hb⟩; refine ⟨_, rfl, ?_⟩; have n0_ := Aside0.mk (Kd.R_lower ho0 (below_size (by repeat (first | (with_reducible first | exact HB.out | apply below_alloc | apply pw_below_drewN | apply below_drew1 | refine below_set ?_ GE225.out) | exact HB.out)))); have n1_ := Aside0.mk (blk_below (g := gb225) (o := .cells #[.int .i64 a0_0, .int .i64 a0_1, .int .i64 a0_2, .slice A0_3 l0_3.length c0_3] 27 (0, 0)) (by (with_reducible repeat first | refine blk_drewN ?_ _ | refine blk_drew ?_ | refine blk_alloc ?_ _); exact BK225.out) hb); have n2_ := Aside0.mk (below_step (by repeat (first | (with_reducible first | exact HB.out | apply below_alloc | apply pw_below_drewN | apply below_drew1 | refine below_set ?_ GE225.out) | exact HB.out)) hb); clear BK225; clear HB; have HO228 := n0_; have BK225 := n1_; have HB := n2_; clear n0_ n1_ n2_; (try clear hb); (try clear hk); (try clear ho0); have hcz19_0 : w18.cell? ⟨gb225, 0, none⟩ = some (.int .i64 a0_0) := (blk_cell BK225.out 0).trans rfl; have hcz19_1 : w18.cell? ⟨gb225, 1, none⟩ = some (.int .i64 a0_1) := (blk_cell BK225.out 1).trans rfl; have hcz19_2 : w18.cell? ⟨gb225, 2, none⟩ = some (.int .i64 a0_2) := (blk_cell BK225.out 2).trans rfl; have hcz19_3 : w18.cell? ⟨gb225, 3, none⟩ = some (.slice A0_3 l0_3.length c0_3) := (blk_cell BK225.out 3).trans rfl; have hfz19_0 := blk_frozen BK225.out 0; have hfz19_1 := blk_frozen BK225.out 1; have hfz19_2 := blk_frozen BK225.out 2; have hfz19_3 := blk_frozen BK225.out 3) | ((with_reducible refine gate_dst (N := 29) rfl ?_); refine Kd.R_make Kd.bool _ 4 rfl (N := 29) rfl 35 _ _ rfl ji10 rfl rfl Try.underlying35 (.bool false) 1 info4 rfl (by decide) (by omega) false (ok := fun _ => True) (okp := fun _ => True) rfl (fun _ hk => hk) trivial (of_decide_eq_true (by first | (with_reducible assumption) | assumption)) (Nat.le_trans (Nat.mul_le_mul_right _ (of_decide_eq_true (by first | (with_reducible assumption) | assumption) : ji10.toNat ≤ 281474976710656)) (by omega)) (Below.refl _ _) (Nat.le_refl _) ?_; intro v231 w20 ho21 hb hg_ hnew_; clear hg_ hnew_; (first | rw [← Ny230.out] at ho21 | (simp only [Int.reduceToNat] at ho21; rw [← Ny230.out] at ho21)); have n0_ := Aside0.mk (Kd.R_below (by (with_reducible repeat first | apply Kd.R_alloc | apply Kd.R_drewN | apply Kd.R_drew); exact HO228.out) hb); have n1_ := Aside0.mk (Kd.R_lower ho21 (below_size (by repeat (first | (with_reducible first | exact HB.out | apply below_alloc | apply pw_below_drewN | apply below_drew1 | refine below_set ?_ GE225.out) | exact HB.out)))); have n2_ := Aside0.mk (blk_below (g := gb225) (o := .cells #[.int .i64 a0_0, .int .i64 a0_1, .int .i64 a0_2, .slice A0_3 l0_3.length c0_3] 27 (0, 0)) (by (with_reducible repeat first | refine blk_drewN ?_ _ | refine blk_drew ?_ | refine blk_alloc ?_ _); exact BK225.out) hb); have n3_ := Aside0.mk (below_step (by repeat (first | (with_reducible first | exact HB.out | apply below_alloc | apply pw_below_drewN | apply below_drew1 | refine below_set ?_ GE225.out) | exact HB.out)) hb); clear HO228; clear BK225; clear HB; have HO228 := n0_; have HO232 := n1_; have BK225 := n2_; have HB := n3_; clear n0_ n1_ n2_ n3_; clear hb ho21; have hcz22_0 : w20.cell? ⟨gb225, 0, none⟩ = some (.int .i64 a0_0) := (blk_cell BK225.out 0).trans rfl; have hcz22_1 : w20.cell? ⟨gb225, 1, none⟩ = some (.int .i64 a0_1) := (blk_cell BK225.out 1).trans rfl; have hcz22_2 : w20.cell? ⟨gb225, 2, none⟩ = some (.int .i64 a0_2) := (blk_cell BK225.out 2).trans rfl; have hcz22_3 : w20.cell? ⟨gb225, 3, none⟩ = some (.slice A0_3 l0_3.length c0_3) := (blk_cell BK225.out 3).trans rfl; have hfz22_0 := blk_frozen BK225.out 0; have hfz22_1 := blk_frozen BK225.out 1; have hfz22_2 := blk_frozen BK225.out 2; have hfz22_3 := blk_frozen BK225.out 3; have p15 : 0 ≤ (a0_1 : Int) := of_decide_eq_true (by first | (with_reducible assumption) | assumption); have q15 : (a0_1 : Int) < ((y230.length : Int) : Int) := of_decide_eq_true (by first | (with_reducible assumption) | assumption); obtain ⟨go15, co15, eo15, gb15, gl15, cl15, HG15⟩ := Kd.R_form HO232.out (by omega); (first | cases eo15 | (injection eo15 with ea_ en_ ec_; (first | subst ea_ | (injection ea_ with ea_; subst ea_)); subst ec_; clear en_)); have GB15 := Aside0.mk gb15; have GG15 := Aside0.mk HG15; clear gb15 gl15 HG15; obtain ⟨hx15_0, hf15_0⟩ := Kd.R_celln false HO232.out (a0_1 : Int) p15 q15; replace p15 := eq_true p15; replace q15 := eq_true q15; obtain ⟨hy23_, hz23_⟩ := Kd.R_celln false HO232.out (a0_1 : Int) (of_decide_eq_true (by first | (with_reducible assumption) | assumption)) (of_decide_eq_true (by first | (with_reducible assumption) | assumption)); have HP23 := Kd.R_putg HO232.out (a0_1 : Int) true) | ((with_reducible refine gate_store (t := 4) (p := 33) rfl ?_); refine store_event (t := 4) (p := 33) (v := ?vo_w24) (w1 := (w20.setCell ⟨go15, (a0_1 : Int).toNat, none⟩ (.bool true))) ?hg ?ho ?hn ?hr ?_; (case ho => rfl); (case hg => rfl); (case hn => rfl); (case hr => first | (go_simp; done) | (go_simp; rfl)); intro w24 hw; have hg : w20.grownBy w24 (some go15) := (by rw [hw]; exact HP23.2); have hp_ : Kd.R Kd.bool 4 w24 w.heap.size (fun _ => True) (.slice (some ⟨go15, 0, none⟩) y230.length co15) y233 := (by rw [hw, Ny233.out]; exact HP23.1); clear HP23; have n0_ := Aside0.mk (blk_grown (g := gb225) (o := .cells #[.int .i64 a0_0, .int .i64 a0_1, .int .i64 a0_2, .slice A0_3 l0_3.length c0_3] 27 (0, 0)) (by (with_reducible repeat first | refine blk_drewN ?_ _ | refine blk_drew ?_ | refine blk_alloc ?_ _); exact BK225.out) hg (Kd.R_ne HO232.out BK225.out (by decide))); have n1_ := Aside0.mk (Kd.R_over' (v := (.slice (some ⟨go15, 0, none⟩) y230.length co15)) (by (with_reducible repeat first | apply Kd.R_alloc | apply Kd.R_drewN | apply Kd.R_drew); exact HO228.out) (Kd.R_typed HO232.out) (by decide) hg); have n2_ := Aside0.mk (hp_); have n3_ := Aside0.mk ((by rw [hw]; exact below_set (HB.out) GB15.out : Below w.heap.size w w24)); clear BK225; clear HO228; clear HO232; clear HB; have BK225 := n0_; have HO228 := n1_; have HO232 := n2_; have HB := n3_; clear n0_ n1_ n2_ n3_; clear hg hw hp_))
       go_loopg [11] k (fun kq v11 w' => ∃ (x10_1 : List Bool) (x11_1 : Bool), v11 = .bool x11_1 ∧ Aside0 (racewayref6_Reach.l0 kq a2 t226 x10_1 x11_1 a0_0 a0_1 a0_2 l0_3 = some (r1, r2)) ∧ Aside0 (kq ≤ k) ∧ Aside0 (Kd.R (Kd.int .i64) 2 w' w.heap.size (fun _ => True) v227 t226) ∧ Aside0 (Kd.R Kd.bool 4 w' w.heap.size (fun _ => True) (.slice (some ⟨go15, 0, none⟩) y230.length co15) x10_1) ∧ Aside0 (w'.heap[gb225]? = some (.cells #[.int .i64 a0_0, .int .i64 a0_1, .int .i64 a0_2, (.slice A0_3 l0_3.length c0_3)] 27 (0, 0))) ∧ Aside0 (Below w.heap.size w w'))
       case atStart => exact ⟨(y233), (true), (by first | rfl | (simp; done) | (simp [*]; done)), H', ⟨Nat.le_refl _⟩, ⟨by (with_reducible repeat first | apply Kd.R_alloc | apply Kd.R_drewN | apply Kd.R_drew); exact HO228.out⟩, ⟨by (with_reducible repeat first | apply Kd.R_alloc | apply Kd.R_drewN | apply Kd.R_drew); exact HO232.out⟩, ⟨by (with_reducible repeat first | refine blk_drewN ?_ _ | refine blk_drew ?_ | refine blk_alloc ?_ _); exact BK225.out⟩, ⟨by repeat (first | (with_reducible first | exact HB.out | apply below_alloc | apply pw_below_drewN | apply below_drew1 | refine below_set ?_ GE225.out) | exact HB.out)⟩⟩
       case round =>
        clear H'
        try clear c1
        try clear p1
        try clear q1
        try clear hx1
        try clear p2
        try clear c3
        try clear c5
        try clear c5b0
        try clear c5b1
        try clear c6
        try clear c6b0
        try clear p6
        try clear c11
        try clear c11b0
        try clear c11b1
        try clear c12
        try clear c12b0
        try clear c12b1
        try clear c13
        try clear c13b0
        try clear c14
        try clear c14b0
        try clear p15
        try clear q15
        try clear hx15
        try clear hf15
        try clear hcz17_0
        try clear hcz17_1
        try clear hcz17_2
        try clear hcz17_3
        try clear hcz19_0
        try clear hcz19_1
        try clear hcz19_2
        try clear hcz19_3
        try clear hcz22_0
        try clear hcz22_1
        try clear hcz22_2
        try clear hcz22_3
        try clear hcz8_0
        try clear hcz8_1
        try clear hcz8_2
        try clear hcz8_3
        try clear hfz17_0
        try clear hfz17_1
        try clear hfz17_2
        try clear hfz17_3
        try clear hfz19_0
        try clear hfz19_1
        try clear hfz19_2
        try clear hfz19_3
        try clear hfz22_0
        try clear hfz22_1
        try clear hfz22_2
        try clear hfz22_3
        try clear hfz8_0
        try clear hfz8_1
        try clear hfz8_2
        try clear hfz8_3
        try clear hx15_0
        try clear p15
        try clear q15
        (obtain ⟨x10_1, x11_1, rfl, HA, HK1, HO_8, HO_10, BK225, HB⟩ := hrel);(have hl10_1 := (Kd.R_reads' HO_10.out).1);(rw [hl10_1] at HO_10);((try simp only [hl10_1]));((try simp only [hl10_1] at BK225));((try simp only [hl10_1] at HO_8))
        cases gk with
        | zero => exact absurd HA.out (by simp [racewayref6_Reach.l0])
        | succ k1 =>
         (have H := HA.out);(clear HA);(simp only [racewayref6_Reach.l0] at H)
         by_cases c25 : x11_1 = true
         ·(subst c25);(have H1 : (racewayref6_Reach.l1 k1 a2 t226 x10_1 false 0 a0_0 a0_1 a0_2 l0_3) = some (r1, r2) := by rw [if_pos rfl] at H; exact H);(clear H);(have H := H1);(clear H1);(have H' := Aside0.mk H);(clear H)
          go_wp2
          go_loopg [11, 12] k1 (fun kq v11 v12 w' => ∃ (x10_2 : List Bool) (x11_2 : Bool) (x12_2 : Int), v11 = .bool x11_2 ∧ v12 = .int .i64 x12_2 ∧ Aside0 (racewayref6_Reach.l1 kq a2 t226 x10_2 x11_2 x12_2 a0_0 a0_1 a0_2 l0_3 = some (r1, r2)) ∧ Aside0 (kq ≤ k1) ∧ Aside0 (Kd.R (Kd.int .i64) 2 w' w.heap.size (fun _ => True) v227 t226) ∧ Aside0 (Kd.R Kd.bool 4 w' w.heap.size (fun _ => True) (.slice (some ⟨go15, 0, none⟩) x10_1.length co15) x10_2) ∧ Aside0 (w'.heap[gb225]? = some (.cells #[.int .i64 a0_0, .int .i64 a0_1, .int .i64 a0_2, (.slice A0_3 l0_3.length c0_3)] 27 (0, 0))) ∧ Aside0 (Below w.heap.size w w'))
          case atStart => exact ⟨(x10_1), (false), (0), (by first | rfl | (simp; done) | (simp [*]; done)), (by first | rfl | (simp; done) | (simp [*]; done)), H', ⟨Nat.le_refl _⟩, ⟨by (try simp only [hl10_1]); (with_reducible repeat first | apply Kd.R_alloc | apply Kd.R_drewN | apply Kd.R_drew); exact HO_8.out⟩, ⟨by (try simp only [hl10_1]); (with_reducible repeat first | apply Kd.R_alloc | apply Kd.R_drewN | apply Kd.R_drew); exact HO_10.out⟩, ⟨by (try simp only [hl10_1]); (with_reducible repeat first | refine blk_drewN ?_ _ | refine blk_drew ?_ | refine blk_alloc ?_ _); exact BK225.out⟩, ⟨by repeat (first | (with_reducible first | exact HB.out | apply below_alloc | apply pw_below_drewN | apply below_drew1 | refine below_set ?_ GE225.out) | exact HB.out)⟩⟩
          case round =>
           clear H'
           try clear c1
           try clear p1
           try clear q1
           try clear hx1
           try clear c2
           try clear p2
           try clear c3
           try clear c5
           try clear c5b0
           try clear c5b1
           try clear c6
           try clear c6b0
           try clear p6
           try clear c11
           try clear c11b0
           try clear c11b1
           try clear c12
           try clear c12b0
           try clear c12b1
           try clear c13
           try clear c13b0
           try clear c14
           try clear c14b0
           try clear p15
           try clear q15
           try clear hx15
           try clear hf15
           try clear c25
           try clear hcz17_0
           try clear hcz17_1
           try clear hcz17_2
           try clear hcz17_3
           try clear hcz19_0
           try clear hcz19_1
           try clear hcz19_2
           try clear hcz19_3
           try clear hcz22_0
           try clear hcz22_1
           try clear hcz22_2
           try clear hcz22_3
           try clear hcz8_0
           try clear hcz8_1
           try clear hcz8_2
           try clear hcz8_3
           try clear hfz17_0
           try clear hfz17_1
           try clear hfz17_2
           try clear hfz17_3
           try clear hfz19_0
           try clear hfz19_1
           try clear hfz19_2
           try clear hfz19_3
           try clear hfz22_0
           try clear hfz22_1
           try clear hfz22_2
           try clear hfz22_3
           try clear hfz8_0
           try clear hfz8_1
           try clear hfz8_2
           try clear hfz8_3
           try clear hx15_0
           try clear p1
           try clear p15
           try clear p2
           try clear p6
           try clear q1
           try clear q15
           (obtain ⟨x10_2, x11_2, x12_2, rfl, rfl, HA, HK2, HO_8, HO_10, BK225, HB⟩ := hrel);(have hl10_2 := (Kd.R_reads' HO_10.out).1);(rw [hl10_2] at HO_10);((try simp only [hl10_2]));((try simp only [hl10_2] at BK225));((try simp only [hl10_2] at HO_8))
           cases gk with
           | zero => exact absurd HA.out (by simp [racewayref6_Reach.l1])
           | succ k2 =>
            (have H := HA.out);(clear HA);(simp only [racewayref6_Reach.l1] at H)
            by_cases c26 : x12_2 < (t226.length : Int)
            ·(rw [if_pos c26] at H);(have c26b0 : decide (x12_2 < (t226.length : Int)) = true := decide_eq_true c26);(clear c26);(replace H := Option.bind_eq_some_iff.mp H);(obtain ⟨⟨t234, t235⟩, A270, H⟩ := H);(replace H : (if 0 ≤ x12_2 then (if (rd t226 x12_2) ≥ a2 then (if 0 ≤ t234 then (if t234 < (x10_2.length : Int) then (if rdOf false x10_2 t234 = true then (if 0 ≤ t235 then (if t235 < (x10_2.length : Int) then (if rdOf false x10_2 t235 = true then (racewayref6_Reach.l1 k2 a2 t226 x10_2 x11_2 (wrap64 (x12_2 + 1)) a0_0 a0_1 a0_2 l0_3) else (racewayref6_Reach.l1 k2 a2 t226 (x10_2.set (t235 : Int).toNat true) true (wrap64 (x12_2 + 1)) a0_0 a0_1 a0_2 l0_3)) else (none)) else (none)) else (racewayref6_Reach.l1 k2 a2 t226 x10_2 x11_2 (wrap64 (x12_2 + 1)) a0_0 a0_1 a0_2 l0_3)) else (none)) else (none)) else (racewayref6_Reach.l1 k2 a2 t226 x10_2 x11_2 (wrap64 (x12_2 + 1)) a0_0 a0_1 a0_2 l0_3)) else (none)) = some (r1, r2) := H);(have A27 := Aside0.mk A270);(clear A270)
             by_cases c28 : 0 ≤ x12_2
             ·(rw [if_pos c28] at H);(have c28b0 : decide (0 ≤ x12_2) = true := decide_eq_true c28);(clear c28)
              by_cases c29 : (rd t226 x12_2) ≥ a2
              ·(rw [if_pos c29] at H);(have c29b0 : decide (a2 ≤ (rd t226 x12_2)) = true := decide_eq_true c29);(clear c29)
               by_cases c30 : 0 ≤ t234
               ·(rw [if_pos c30] at H);(have c30b0 : decide (0 ≤ t234) = true := decide_eq_true c30);(clear c30)
                by_cases c31 : t234 < (x10_2.length : Int)
                ·(rw [if_pos c31] at H);(have c31b0 : decide (t234 < (x10_2.length : Int)) = true := decide_eq_true c31);(clear c31);(obtain ⟨bq32, hbq32⟩ : ∃ b_ : Bool, b_ = (rdOf false x10_2 t234) := ⟨_, rfl⟩);(replace H : (if bq32 = true then (if 0 ≤ t235 then (if t235 < (x10_2.length : Int) then (if rdOf false x10_2 t235 = true then (racewayref6_Reach.l1 k2 a2 t226 x10_2 x11_2 (wrap64 (x12_2 + 1)) a0_0 a0_1 a0_2 l0_3) else (racewayref6_Reach.l1 k2 a2 t226 (x10_2.set (t235 : Int).toNat true) true (wrap64 (x12_2 + 1)) a0_0 a0_1 a0_2 l0_3)) else (none)) else (none)) else (racewayref6_Reach.l1 k2 a2 t226 x10_2 x11_2 (wrap64 (x12_2 + 1)) a0_0 a0_1 a0_2 l0_3)) = some (r1, r2) := by rw [← hbq32] at H; exact H);(have Nbq32 := Aside0.mk hbq32);(clear hbq32)
                 by_cases c33 : bq32 = true
                 ·(subst c33);(have H1 : (if 0 ≤ t235 then (if t235 < (x10_2.length : Int) then (if rdOf false x10_2 t235 = true then (racewayref6_Reach.l1 k2 a2 t226 x10_2 x11_2 (wrap64 (x12_2 + 1)) a0_0 a0_1 a0_2 l0_3) else (racewayref6_Reach.l1 k2 a2 t226 (x10_2.set (t235 : Int).toNat true) true (wrap64 (x12_2 + 1)) a0_0 a0_1 a0_2 l0_3)) else (none)) else (none)) = some (r1, r2) := by rw [if_pos rfl] at H; exact H);(clear H);(have H := H1);(clear H1)
                  by_cases c34 : 0 ≤ t235
                  ·(rw [if_pos c34] at H);(have c34b0 : decide (0 ≤ t235) = true := decide_eq_true c34);(clear c34)
                   by_cases c35 : t235 < (x10_2.length : Int)
                   ·(rw [if_pos c35] at H);(have c35b0 : decide (t235 < (x10_2.length : Int)) = true := decide_eq_true c35);(clear c35);(obtain ⟨bq36, hbq36⟩ : ∃ b_ : Bool, b_ = (rdOf false x10_2 t235) := ⟨_, rfl⟩);(replace H : (if bq36 = true then (racewayref6_Reach.l1 k2 a2 t226 x10_2 x11_2 (wrap64 (x12_2 + 1)) a0_0 a0_1 a0_2 l0_3) else (racewayref6_Reach.l1 k2 a2 t226 (x10_2.set (t235 : Int).toNat true) true (wrap64 (x12_2 + 1)) a0_0 a0_1 a0_2 l0_3)) = some (r1, r2) := by rw [← hbq36] at H; exact H);(have Nbq36 := Aside0.mk hbq36);(clear hbq36)
                    by_cases c37 : bq36 = true
                    ·(subst c37);(have H1 : (racewayref6_Reach.l1 k2 a2 t226 x10_2 x11_2 (wrap64 (x12_2 + 1)) a0_0 a0_1 a0_2 l0_3) = some (r1, r2) := by rw [if_pos rfl] at H; exact H);(clear H);(have H := H1);(clear H1)
                     as_aux_lemma =>
                      (have H' := Aside0.mk H);(clear H);(obtain ⟨Ao38, co38, eo38⟩ := Kd.R_slice HO_8.out);(subst eo38);(have hcz39_0 : wr.cell? ⟨gb225, 0, none⟩ = some (.int .i64 a0_0) := (blk_cell BK225.out 0).trans rfl);(have hcz39_1 : wr.cell? ⟨gb225, 1, none⟩ = some (.int .i64 a0_1) := (blk_cell BK225.out 1).trans rfl);(have hcz39_2 : wr.cell? ⟨gb225, 2, none⟩ = some (.int .i64 a0_2) := (blk_cell BK225.out 2).trans rfl);(have hcz39_3 : wr.cell? ⟨gb225, 3, none⟩ = some (.slice A0_3 l0_3.length c0_3) := (blk_cell BK225.out 3).trans rfl);(have hfz39_0 := blk_frozen BK225.out 0);(have hfz39_1 := blk_frozen BK225.out 1);(have hfz39_2 := blk_frozen BK225.out 2);(have hfz39_3 := blk_frozen BK225.out 3)
                      go_wp2_with (first | ((with_reducible refine gate_callee (f := 40) rfl ?_); refine goesL_ (some 44) rfl rfl Try.func40 (by kernel_rfl) rfl #[.agg #[.int .i64 a0_0, .int .i64 a0_1, .int .i64 a0_2, .slice A0_3 l0_3.length c0_3], .int .i64 x12_2] rfl (by (try simp only [List.map_toArray, List.map_cons, List.map_nil]); first | done | rfl | (simp only [List.length_drop, List.length_take]; rfl)) ?_; (with_reducible refine (racewayref6_Ends.calls k2 a0_0 a0_1 a0_2 _ _ l0_3 x12_2 t234 t235 _ ?side1 ?side2 A27.out).mono ?_); (case side1 => repeat (first | exact (Kd.C_below HR0_3.out HB.out) | (with_reducible refine Kd.C_alloc ?_ _) | (with_reducible refine Kd.C_drewN ?_ _) | (with_reducible refine Kd.C_drew ?_))); (case side2 => exact HC0_3.out); rintro e w40 ⟨rfl, hb⟩; refine ⟨_, rfl, ?_⟩; have n0_ := Aside0.mk (Kd.R_below (by (with_reducible repeat first | apply Kd.R_alloc | apply Kd.R_drewN | apply Kd.R_drew); exact HO_8.out) hb); have n1_ := Aside0.mk (Kd.R_below (by (with_reducible repeat first | apply Kd.R_alloc | apply Kd.R_drewN | apply Kd.R_drew); exact HO_10.out) hb); have n2_ := Aside0.mk (blk_below (g := gb225) (o := .cells #[.int .i64 a0_0, .int .i64 a0_1, .int .i64 a0_2, .slice A0_3 l0_3.length c0_3] 27 (0, 0)) (by (with_reducible repeat first | refine blk_drewN ?_ _ | refine blk_drew ?_ | refine blk_alloc ?_ _); exact BK225.out) hb); have n3_ := Aside0.mk (below_step (by repeat (first | (with_reducible first | exact HB.out | apply below_alloc | apply pw_below_drewN | apply below_drew1 | refine below_set ?_ GE225.out) | exact HB.out)) hb); clear HO_8; clear HO_10; clear BK225; clear HB; have HO_8 := n0_; have HO_10 := n1_; have BK225 := n2_; have HB := n3_; clear n0_ n1_ n2_ n3_; (try clear hb); (try clear hk); have p236 : 0 ≤ (x12_2 : Int) := of_decide_eq_true (by first | (with_reducible assumption) | assumption); have q236 : x12_2 < (t226.length : Int) := of_decide_eq_true (by first | (with_reducible assumption) | assumption); obtain ⟨ad236, e236, hx236_0⟩ := Kd.at_int (Kd.R_reads' HO_8.out).2.2 x12_2 p236 q236; cases e236; replace p236 := eq_true p236; replace q236 := eq_true q236; have p237 : 0 ≤ (t234 : Int) := of_decide_eq_true (by first | (with_reducible assumption) | assumption); have q237 : t234 < (x10_2.length : Int) := of_decide_eq_true (by first | (with_reducible assumption) | assumption); obtain ⟨ad237, e237, hx237_0⟩ := Kd.at_bool (Kd.R_reads' HO_10.out).2.2 t234 p237 q237; (try rw [← Nbq32.out] at hx237_0); (try rw [← Nbq36.out] at hx237_0); obtain rfl : (⟨go15, 0, none⟩ : Addr) = ad237 := (by injection e237); (first | simp only [add_plain] at hx237_0 | simp only [add_at] at hx237_0 | simp only [Addr.add, Nat.zero_add] at hx237_0 | skip); replace p237 := eq_true p237; replace q237 := eq_true q237; have p238 : 0 ≤ (t235 : Int) := of_decide_eq_true (by first | (with_reducible assumption) | assumption); have q238 : t235 < (x10_2.length : Int) := of_decide_eq_true (by first | (with_reducible assumption) | assumption); obtain ⟨ad238, e238, hx238_0⟩ := Kd.at_bool (Kd.R_reads' HO_10.out).2.2 t235 p238 q238; (try rw [← Nbq32.out] at hx238_0); (try rw [← Nbq36.out] at hx238_0); obtain rfl : (⟨go15, 0, none⟩ : Addr) = ad238 := (by injection e238); (first | simp only [add_plain] at hx238_0 | simp only [add_at] at hx238_0 | simp only [Addr.add, Nat.zero_add] at hx238_0 | skip); replace p238 := eq_true p238; replace q238 := eq_true q238))
                      (try simp only [← hl10_2])
                      go_roundg k2
                      case measure => have := HK1.out; have := HK2.out; omega
                      case rel => exact ⟨(x10_2), (x11_2), (wrap64 (x12_2 + 1)), (by first | rfl | (simp; done) | (simp [*]; done)), (by first | rfl | (simp; done) | (simp [*]; done)), H', ⟨by have := HK1.out; have := HK2.out; omega⟩, ⟨by (try simp only [hl10_1]); (try simp only [hl10_2]); (with_reducible repeat first | apply Kd.R_alloc | apply Kd.R_drewN | apply Kd.R_drew); exact HO_8.out⟩, ⟨by (try simp only [hl10_1]); (try simp only [hl10_2]); (with_reducible repeat first | apply Kd.R_alloc | apply Kd.R_drewN | apply Kd.R_drew); exact HO_10.out⟩, ⟨by (try simp only [hl10_1]); (try simp only [hl10_2]); (with_reducible repeat first | refine blk_drewN ?_ _ | refine blk_drew ?_ | refine blk_alloc ?_ _); exact BK225.out⟩, ⟨by repeat (first | (with_reducible first | exact HB.out | apply below_alloc | apply pw_below_drewN | apply below_drew1 | refine below_set ?_ GE225.out) | exact HB.out)⟩⟩
                    ·(replace c37 := Bool.eq_false_iff.mpr c37);(subst c37);(have H1 : (racewayref6_Reach.l1 k2 a2 t226 (x10_2.set (t235 : Int).toNat true) true (wrap64 (x12_2 + 1)) a0_0 a0_1 a0_2 l0_3) = some (r1, r2) := by rw [if_neg (show ¬ (false = true) by decide)] at H; exact H);(clear H);(have H := H1);(clear H1);(obtain ⟨y239, hy239⟩ : ∃ y_ : List Bool, y_ = (x10_2.set (t235 : Int).toNat true) := ⟨_, rfl⟩);(replace H : (racewayref6_Reach.l1 k2 a2 t226 y239 true (wrap64 (x12_2 + 1)) a0_0 a0_1 a0_2 l0_3) = some (r1, r2) := by first | (rw [hy239]; with_reducible exact H) | (have H2_ := (Option.bind_some _ _).symm.trans H; rw [hy239]; with_reducible exact H2_) | (have H2_ := (Option.bind_some _ _).symm.trans H; with_reducible exact H2_) | with_reducible exact H | (rw [hy239]; exact H) | exact H);(have Ny239 := Aside0.mk hy239);(clear hy239)
                     as_aux_lemma =>
                      (have H' := Aside0.mk H);(clear H);(obtain ⟨Ao42, co42, eo42⟩ := Kd.R_slice HO_8.out);(subst eo42);(have hcz43_0 : wr.cell? ⟨gb225, 0, none⟩ = some (.int .i64 a0_0) := (blk_cell BK225.out 0).trans rfl);(have hcz43_1 : wr.cell? ⟨gb225, 1, none⟩ = some (.int .i64 a0_1) := (blk_cell BK225.out 1).trans rfl);(have hcz43_2 : wr.cell? ⟨gb225, 2, none⟩ = some (.int .i64 a0_2) := (blk_cell BK225.out 2).trans rfl);(have hcz43_3 : wr.cell? ⟨gb225, 3, none⟩ = some (.slice A0_3 l0_3.length c0_3) := (blk_cell BK225.out 3).trans rfl);(have hfz43_0 := blk_frozen BK225.out 0);(have hfz43_1 := blk_frozen BK225.out 1);(have hfz43_2 := blk_frozen BK225.out 2);(have hfz43_3 := blk_frozen BK225.out 3)
                      go_wp2_with (first | ((with_reducible refine gate_callee (f := 40) rfl ?_); refine goesL_ (some 44) rfl rfl Try.func40 (by kernel_rfl) rfl #[.agg #[.int .i64 a0_0, .int .i64 a0_1, .int .i64 a0_2, .slice A0_3 l0_3.length c0_3], .int .i64 x12_2] rfl (by (try simp only [List.map_toArray, List.map_cons, List.map_nil]); first | done | rfl | (simp only [List.length_drop, List.length_take]; rfl)) ?_; (with_reducible refine (racewayref6_Ends.calls k2 a0_0 a0_1 a0_2 _ _ l0_3 x12_2 t234 t235 _ ?side1 ?side2 A27.out).mono ?_); (case side1 => repeat (first | exact (Kd.C_below HR0_3.out HB.out) | (with_reducible refine Kd.C_alloc ?_ _) | (with_reducible refine Kd.C_drewN ?_ _) | (with_reducible refine Kd.C_drew ?_))); (case side2 => exact HC0_3.out); rintro e w44 ⟨rfl, hb⟩; refine ⟨_, rfl, ?_⟩; have n0_ := Aside0.mk (Kd.R_below (by (with_reducible repeat first | apply Kd.R_alloc | apply Kd.R_drewN | apply Kd.R_drew); exact HO_8.out) hb); have n1_ := Aside0.mk (Kd.R_below (by (with_reducible repeat first | apply Kd.R_alloc | apply Kd.R_drewN | apply Kd.R_drew); exact HO_10.out) hb); have n2_ := Aside0.mk (blk_below (g := gb225) (o := .cells #[.int .i64 a0_0, .int .i64 a0_1, .int .i64 a0_2, .slice A0_3 l0_3.length c0_3] 27 (0, 0)) (by (with_reducible repeat first | refine blk_drewN ?_ _ | refine blk_drew ?_ | refine blk_alloc ?_ _); exact BK225.out) hb); have n3_ := Aside0.mk (below_step (by repeat (first | (with_reducible first | exact HB.out | apply below_alloc | apply pw_below_drewN | apply below_drew1 | refine below_set ?_ GE225.out) | exact HB.out)) hb); clear HO_8; clear HO_10; clear BK225; clear HB; have HO_8 := n0_; have HO_10 := n1_; have BK225 := n2_; have HB := n3_; clear n0_ n1_ n2_ n3_; (try clear hb); (try clear hk); have p236 : 0 ≤ (x12_2 : Int) := of_decide_eq_true (by first | (with_reducible assumption) | assumption); have q236 : x12_2 < (t226.length : Int) := of_decide_eq_true (by first | (with_reducible assumption) | assumption); obtain ⟨ad236, e236, hx236_0⟩ := Kd.at_int (Kd.R_reads' HO_8.out).2.2 x12_2 p236 q236; cases e236; replace p236 := eq_true p236; replace q236 := eq_true q236; have p237 : 0 ≤ (t234 : Int) := of_decide_eq_true (by first | (with_reducible assumption) | assumption); have q237 : t234 < (x10_2.length : Int) := of_decide_eq_true (by first | (with_reducible assumption) | assumption); obtain ⟨ad237, e237, hx237_0⟩ := Kd.at_bool (Kd.R_reads' HO_10.out).2.2 t234 p237 q237; (try rw [← Nbq32.out] at hx237_0); (try rw [← Nbq36.out] at hx237_0); obtain rfl : (⟨go15, 0, none⟩ : Addr) = ad237 := (by injection e237); (first | simp only [add_plain] at hx237_0 | simp only [add_at] at hx237_0 | simp only [Addr.add, Nat.zero_add] at hx237_0 | skip); replace p237 := eq_true p237; replace q237 := eq_true q237; have p238 : 0 ≤ (t235 : Int) := of_decide_eq_true (by first | (with_reducible assumption) | assumption); have q238 : t235 < (x10_2.length : Int) := of_decide_eq_true (by first | (with_reducible assumption) | assumption); obtain ⟨ad238, e238, hx238_0⟩ := Kd.at_bool (Kd.R_reads' HO_10.out).2.2 t235 p238 q238; (try rw [← Nbq32.out] at hx238_0); (try rw [← Nbq36.out] at hx238_0); obtain rfl : (⟨go15, 0, none⟩ : Addr) = ad238 := (by injection e238); (first | simp only [add_plain] at hx238_0 | simp only [add_at] at hx238_0 | simp only [Addr.add, Nat.zero_add] at hx238_0 | skip); replace p238 := eq_true p238; replace q238 := eq_true q238; have p41 : 0 ≤ (t235 : Int) := of_decide_eq_true (by first | (with_reducible assumption) | assumption); have q41 : (t235 : Int) < ((x10_2.length : Int) : Int) := of_decide_eq_true (by first | (with_reducible assumption) | assumption); obtain ⟨hx41_0, hf41_0⟩ := Kd.R_celln false HO_10.out (t235 : Int) p41 q41; replace p41 := eq_true p41; replace q41 := eq_true q41; obtain ⟨hy45_, hz45_⟩ := Kd.R_celln false HO_10.out (t235 : Int) (of_decide_eq_true (by first | (with_reducible assumption) | assumption)) (of_decide_eq_true (by first | (with_reducible assumption) | assumption)); have HP45 := Kd.R_putg HO_10.out (t235 : Int) true) | ((with_reducible refine gate_store (t := 4) (p := 68) rfl ?_); refine store_event (t := 4) (p := 68) (v := ?vo_w46) (w1 := (w44.setCell ⟨go15, (t235 : Int).toNat, none⟩ (.bool true))) ?hg ?ho ?hn ?hr ?_; (case ho => rfl); (case hg => rfl); (case hn => rfl); (case hr => first | (go_simp; done) | (go_simp; rfl)); intro w46 hw; have hg : w44.grownBy w46 (some go15) := (by rw [hw]; exact HP45.2); have hp_ : Kd.R Kd.bool 4 w46 w.heap.size (fun _ => True) (.slice (some ⟨go15, 0, none⟩) x10_2.length co15) y239 := (by rw [hw, Ny239.out]; exact HP45.1); clear HP45; have n0_ := Aside0.mk (Kd.R_over' (v := (.slice (some ⟨go15, 0, none⟩) x10_2.length co15)) (by (with_reducible repeat first | apply Kd.R_alloc | apply Kd.R_drewN | apply Kd.R_drew); exact HO_8.out) (Kd.R_typed HO_10.out) (by decide) hg); have n1_ := Aside0.mk (hp_); have n2_ := Aside0.mk (blk_grown (g := gb225) (o := .cells #[.int .i64 a0_0, .int .i64 a0_1, .int .i64 a0_2, .slice A0_3 l0_3.length c0_3] 27 (0, 0)) (by (with_reducible repeat first | refine blk_drewN ?_ _ | refine blk_drew ?_ | refine blk_alloc ?_ _); exact BK225.out) hg (Kd.R_ne HO_10.out BK225.out (by decide))); have n3_ := Aside0.mk ((by rw [hw]; exact below_set (HB.out) GB15.out : Below w.heap.size w w46)); clear HO_8; clear HO_10; clear BK225; clear HB; have HO_8 := n0_; have HO_10 := n1_; have BK225 := n2_; have HB := n3_; clear n0_ n1_ n2_ n3_; clear hg hw hp_))
                      (try simp only [← hl10_2])
                      go_roundg k2
                      case measure => have := HK1.out; have := HK2.out; omega
                      case rel => exact ⟨(y239), (true), (wrap64 (x12_2 + 1)), (by first | rfl | (simp; done) | (simp [*]; done)), (by first | rfl | (simp; done) | (simp [*]; done)), H', ⟨by have := HK1.out; have := HK2.out; omega⟩, ⟨by (try simp only [hl10_1]); (try simp only [hl10_2]); (with_reducible repeat first | apply Kd.R_alloc | apply Kd.R_drewN | apply Kd.R_drew); exact HO_8.out⟩, ⟨by (try simp only [hl10_1]); (try simp only [hl10_2]); (with_reducible repeat first | apply Kd.R_alloc | apply Kd.R_drewN | apply Kd.R_drew); exact HO_10.out⟩, ⟨by (try simp only [hl10_1]); (try simp only [hl10_2]); (with_reducible repeat first | refine blk_drewN ?_ _ | refine blk_drew ?_ | refine blk_alloc ?_ _); exact BK225.out⟩, ⟨by repeat (first | (with_reducible first | exact HB.out | apply below_alloc | apply pw_below_drewN | apply below_drew1 | refine below_set ?_ GE225.out) | exact HB.out)⟩⟩
                   ·(rw [if_neg c35] at H);(exact absurd H (by simp))
                  ·(rw [if_neg c34] at H);(exact absurd H (by simp))
                 ·(replace c33 := Bool.eq_false_iff.mpr c33);(subst c33);(have H1 : (racewayref6_Reach.l1 k2 a2 t226 x10_2 x11_2 (wrap64 (x12_2 + 1)) a0_0 a0_1 a0_2 l0_3) = some (r1, r2) := by rw [if_neg (show ¬ (false = true) by decide)] at H; exact H);(clear H);(have H := H1);(clear H1)
                  as_aux_lemma =>
                   (have H' := Aside0.mk H);(clear H);(obtain ⟨Ao47, co47, eo47⟩ := Kd.R_slice HO_8.out);(subst eo47);(have hcz48_0 : wr.cell? ⟨gb225, 0, none⟩ = some (.int .i64 a0_0) := (blk_cell BK225.out 0).trans rfl);(have hcz48_1 : wr.cell? ⟨gb225, 1, none⟩ = some (.int .i64 a0_1) := (blk_cell BK225.out 1).trans rfl);(have hcz48_2 : wr.cell? ⟨gb225, 2, none⟩ = some (.int .i64 a0_2) := (blk_cell BK225.out 2).trans rfl);(have hcz48_3 : wr.cell? ⟨gb225, 3, none⟩ = some (.slice A0_3 l0_3.length c0_3) := (blk_cell BK225.out 3).trans rfl);(have hfz48_0 := blk_frozen BK225.out 0);(have hfz48_1 := blk_frozen BK225.out 1);(have hfz48_2 := blk_frozen BK225.out 2);(have hfz48_3 := blk_frozen BK225.out 3)
                   go_wp2_with (first | ((with_reducible refine gate_callee (f := 40) rfl ?_); refine goesL_ (some 44) rfl rfl Try.func40 (by kernel_rfl) rfl #[.agg #[.int .i64 a0_0, .int .i64 a0_1, .int .i64 a0_2, .slice A0_3 l0_3.length c0_3], .int .i64 x12_2] rfl (by (try simp only [List.map_toArray, List.map_cons, List.map_nil]); first | done | rfl | (simp only [List.length_drop, List.length_take]; rfl)) ?_; (with_reducible refine (racewayref6_Ends.calls k2 a0_0 a0_1 a0_2 _ _ l0_3 x12_2 t234 t235 _ ?side1 ?side2 A27.out).mono ?_); (case side1 => repeat (first | exact (Kd.C_below HR0_3.out HB.out) | (with_reducible refine Kd.C_alloc ?_ _) | (with_reducible refine Kd.C_drewN ?_ _) | (with_reducible refine Kd.C_drew ?_))); (case side2 => exact HC0_3.out); rintro e w49 ⟨rfl, hb⟩; refine ⟨_, rfl, ?_⟩; have n0_ := Aside0.mk (Kd.R_below (by (with_reducible repeat first | apply Kd.R_alloc | apply Kd.R_drewN | apply Kd.R_drew); exact HO_8.out) hb); have n1_ := Aside0.mk (Kd.R_below (by (with_reducible repeat first | apply Kd.R_alloc | apply Kd.R_drewN | apply Kd.R_drew); exact HO_10.out) hb); have n2_ := Aside0.mk (blk_below (g := gb225) (o := .cells #[.int .i64 a0_0, .int .i64 a0_1, .int .i64 a0_2, .slice A0_3 l0_3.length c0_3] 27 (0, 0)) (by (with_reducible repeat first | refine blk_drewN ?_ _ | refine blk_drew ?_ | refine blk_alloc ?_ _); exact BK225.out) hb); have n3_ := Aside0.mk (below_step (by repeat (first | (with_reducible first | exact HB.out | apply below_alloc | apply pw_below_drewN | apply below_drew1 | refine below_set ?_ GE225.out) | exact HB.out)) hb); clear HO_8; clear HO_10; clear BK225; clear HB; have HO_8 := n0_; have HO_10 := n1_; have BK225 := n2_; have HB := n3_; clear n0_ n1_ n2_ n3_; (try clear hb); (try clear hk); have p236 : 0 ≤ (x12_2 : Int) := of_decide_eq_true (by first | (with_reducible assumption) | assumption); have q236 : x12_2 < (t226.length : Int) := of_decide_eq_true (by first | (with_reducible assumption) | assumption); obtain ⟨ad236, e236, hx236_0⟩ := Kd.at_int (Kd.R_reads' HO_8.out).2.2 x12_2 p236 q236; cases e236; replace p236 := eq_true p236; replace q236 := eq_true q236; have p237 : 0 ≤ (t234 : Int) := of_decide_eq_true (by first | (with_reducible assumption) | assumption); have q237 : t234 < (x10_2.length : Int) := of_decide_eq_true (by first | (with_reducible assumption) | assumption); obtain ⟨ad237, e237, hx237_0⟩ := Kd.at_bool (Kd.R_reads' HO_10.out).2.2 t234 p237 q237; (try rw [← Nbq32.out] at hx237_0); obtain rfl : (⟨go15, 0, none⟩ : Addr) = ad237 := (by injection e237); (first | simp only [add_plain] at hx237_0 | simp only [add_at] at hx237_0 | simp only [Addr.add, Nat.zero_add] at hx237_0 | skip); replace p237 := eq_true p237; replace q237 := eq_true q237))
                   (try simp only [← hl10_2])
                   go_roundg k2
                   case measure => have := HK1.out; have := HK2.out; omega
                   case rel => exact ⟨(x10_2), (x11_2), (wrap64 (x12_2 + 1)), (by first | rfl | (simp; done) | (simp [*]; done)), (by first | rfl | (simp; done) | (simp [*]; done)), H', ⟨by have := HK1.out; have := HK2.out; omega⟩, ⟨by (try simp only [hl10_1]); (try simp only [hl10_2]); (with_reducible repeat first | apply Kd.R_alloc | apply Kd.R_drewN | apply Kd.R_drew); exact HO_8.out⟩, ⟨by (try simp only [hl10_1]); (try simp only [hl10_2]); (with_reducible repeat first | apply Kd.R_alloc | apply Kd.R_drewN | apply Kd.R_drew); exact HO_10.out⟩, ⟨by (try simp only [hl10_1]); (try simp only [hl10_2]); (with_reducible repeat first | refine blk_drewN ?_ _ | refine blk_drew ?_ | refine blk_alloc ?_ _); exact BK225.out⟩, ⟨by repeat (first | (with_reducible first | exact HB.out | apply below_alloc | apply pw_below_drewN | apply below_drew1 | refine below_set ?_ GE225.out) | exact HB.out)⟩⟩
                ·(rw [if_neg c31] at H);(exact absurd H (by simp))
               ·(rw [if_neg c30] at H);(exact absurd H (by simp))
              ·(rw [if_neg c29] at H);(have c29b0 : decide (a2 ≤ (rd t226 x12_2)) = false := decide_eq_false c29);(clear c29)
               as_aux_lemma =>
                (have H' := Aside0.mk H);(clear H);(obtain ⟨Ao50, co50, eo50⟩ := Kd.R_slice HO_8.out);(subst eo50);(have hcz51_0 : wr.cell? ⟨gb225, 0, none⟩ = some (.int .i64 a0_0) := (blk_cell BK225.out 0).trans rfl);(have hcz51_1 : wr.cell? ⟨gb225, 1, none⟩ = some (.int .i64 a0_1) := (blk_cell BK225.out 1).trans rfl);(have hcz51_2 : wr.cell? ⟨gb225, 2, none⟩ = some (.int .i64 a0_2) := (blk_cell BK225.out 2).trans rfl);(have hcz51_3 : wr.cell? ⟨gb225, 3, none⟩ = some (.slice A0_3 l0_3.length c0_3) := (blk_cell BK225.out 3).trans rfl);(have hfz51_0 := blk_frozen BK225.out 0);(have hfz51_1 := blk_frozen BK225.out 1);(have hfz51_2 := blk_frozen BK225.out 2);(have hfz51_3 := blk_frozen BK225.out 3)
                go_wp2_with (first | ((with_reducible refine gate_callee (f := 40) rfl ?_); refine goesL_ (some 44) rfl rfl Try.func40 (by kernel_rfl) rfl #[.agg #[.int .i64 a0_0, .int .i64 a0_1, .int .i64 a0_2, .slice A0_3 l0_3.length c0_3], .int .i64 x12_2] rfl (by (try simp only [List.map_toArray, List.map_cons, List.map_nil]); first | done | rfl | (simp only [List.length_drop, List.length_take]; rfl)) ?_; (with_reducible refine (racewayref6_Ends.calls k2 a0_0 a0_1 a0_2 _ _ l0_3 x12_2 t234 t235 _ ?side1 ?side2 A27.out).mono ?_); (case side1 => repeat (first | exact (Kd.C_below HR0_3.out HB.out) | (with_reducible refine Kd.C_alloc ?_ _) | (with_reducible refine Kd.C_drewN ?_ _) | (with_reducible refine Kd.C_drew ?_))); (case side2 => exact HC0_3.out); rintro e w52 ⟨rfl, hb⟩; refine ⟨_, rfl, ?_⟩; have n0_ := Aside0.mk (Kd.R_below (by (with_reducible repeat first | apply Kd.R_alloc | apply Kd.R_drewN | apply Kd.R_drew); exact HO_8.out) hb); have n1_ := Aside0.mk (Kd.R_below (by (with_reducible repeat first | apply Kd.R_alloc | apply Kd.R_drewN | apply Kd.R_drew); exact HO_10.out) hb); have n2_ := Aside0.mk (blk_below (g := gb225) (o := .cells #[.int .i64 a0_0, .int .i64 a0_1, .int .i64 a0_2, .slice A0_3 l0_3.length c0_3] 27 (0, 0)) (by (with_reducible repeat first | refine blk_drewN ?_ _ | refine blk_drew ?_ | refine blk_alloc ?_ _); exact BK225.out) hb); have n3_ := Aside0.mk (below_step (by repeat (first | (with_reducible first | exact HB.out | apply below_alloc | apply pw_below_drewN | apply below_drew1 | refine below_set ?_ GE225.out) | exact HB.out)) hb); clear HO_8; clear HO_10; clear BK225; clear HB; have HO_8 := n0_; have HO_10 := n1_; have BK225 := n2_; have HB := n3_; clear n0_ n1_ n2_ n3_; (try clear hb); (try clear hk); have p236 : 0 ≤ (x12_2 : Int) := of_decide_eq_true (by first | (with_reducible assumption) | assumption); have q236 : x12_2 < (t226.length : Int) := of_decide_eq_true (by first | (with_reducible assumption) | assumption); obtain ⟨ad236, e236, hx236_0⟩ := Kd.at_int (Kd.R_reads' HO_8.out).2.2 x12_2 p236 q236; cases e236; replace p236 := eq_true p236; replace q236 := eq_true q236))
                (try simp only [← hl10_2])
                go_roundg k2
                case measure => have := HK1.out; have := HK2.out; omega
                case rel => exact ⟨(x10_2), (x11_2), (wrap64 (x12_2 + 1)), (by first | rfl | (simp; done) | (simp [*]; done)), (by first | rfl | (simp; done) | (simp [*]; done)), H', ⟨by have := HK1.out; have := HK2.out; omega⟩, ⟨by (try simp only [hl10_1]); (try simp only [hl10_2]); (with_reducible repeat first | apply Kd.R_alloc | apply Kd.R_drewN | apply Kd.R_drew); exact HO_8.out⟩, ⟨by (try simp only [hl10_1]); (try simp only [hl10_2]); (with_reducible repeat first | apply Kd.R_alloc | apply Kd.R_drewN | apply Kd.R_drew); exact HO_10.out⟩, ⟨by (try simp only [hl10_1]); (try simp only [hl10_2]); (with_reducible repeat first | refine blk_drewN ?_ _ | refine blk_drew ?_ | refine blk_alloc ?_ _); exact BK225.out⟩, ⟨by repeat (first | (with_reducible first | exact HB.out | apply below_alloc | apply pw_below_drewN | apply below_drew1 | refine below_set ?_ GE225.out) | exact HB.out)⟩⟩
             ·(rw [if_neg c28] at H);(exact absurd H (by simp))
            ·(rw [if_neg c26] at H);(have c26b0 : decide (x12_2 < (t226.length : Int)) = false := decide_eq_false c26);(clear c26)
             as_aux_lemma =>
              (have H' := Aside0.mk H);(clear H);(obtain ⟨Ao53, co53, eo53⟩ := Kd.R_slice HO_8.out);(subst eo53)
              go_wp2
              (try simp only [← hl10_1, ← hl10_2])
              go_roundg k2
              case measure => have := HK1.out; have := HK2.out; omega
              case rel => exact ⟨(x10_2), (x11_2), (by first | rfl | (simp; done) | (simp [*]; done)), H', ⟨by have := HK1.out; have := HK2.out; omega⟩, ⟨by (try simp only [hl10_1]); (try simp only [hl10_2]); (with_reducible repeat first | apply Kd.R_alloc | apply Kd.R_drewN | apply Kd.R_drew); exact HO_8.out⟩, ⟨by (try simp only [hl10_1]); (try simp only [hl10_2]); (with_reducible repeat first | apply Kd.R_alloc | apply Kd.R_drewN | apply Kd.R_drew); exact HO_10.out⟩, ⟨by (try simp only [hl10_1]); (try simp only [hl10_2]); (with_reducible repeat first | refine blk_drewN ?_ _ | refine blk_drew ?_ | refine blk_alloc ?_ _); exact BK225.out⟩, ⟨by repeat (first | (with_reducible first | exact HB.out | apply below_alloc | apply pw_below_drewN | apply below_drew1 | refine below_set ?_ GE225.out) | exact HB.out)⟩⟩
         ·(replace c25 := Bool.eq_false_iff.mpr c25);(subst c25);(have H1 : (some (x10_1, 0)) = some (r1, r2) := by rw [if_neg (show ¬ (false = true) by decide)] at H; exact H);(clear H);(have H := H1);(clear H1)
          as_aux_lemma =>
           (simp only [Option.some.injEq, Prod.mk.injEq] at H);(obtain ⟨rfl, rfl⟩ := H)
           go_wp2
           go_ret2
           exact ⟨_, by first | rfl | (simp [errW_none, errW_some] <;> rfl) | (simp only [← hji10]; first | rfl | (simp [errW_none, errW_some] <;> rfl)) | (simp [*, errW_none, errW_some] <;> rfl), by (with_reducible repeat first | apply Kd.R_alloc | apply Kd.R_drewN | apply Kd.R_drew); exact HO_10.out, by repeat (first | (with_reducible first | exact HB.out | apply below_alloc | apply pw_below_drewN | apply below_drew1 | refine below_set ?_ GE225.out) | exact HB.out)⟩
      ·(rw [if_neg c14] at H);(exact absurd H (by simp))
     ·(rw [if_neg c13] at H);(exact absurd H (by simp))
    ·(rw [if_neg c12] at H);(exact absurd H (by simp))
   ·(rw [if_neg c11] at H);(exact absurd H (by simp))
 ·rw [if_neg c5] at H
  have c5b0 : (t229 == 0) = false := beq_eq_false_iff_ne.mpr c5
  have c5b1 : (t229 != 0) = true := bne_iff_ne.mpr c5
  as_aux_lemma =>
   (simp only [Option.some.injEq, Prod.mk.injEq] at H);(obtain ⟨rfl, rfl⟩ := H)
   go_enter Try.func38, Try.ntmps38
   go_wp2_with (first | ((with_reducible refine gate_dst (N := 3) rfl ?_); refine box_event ?hg (N := 3) ?hd (cs := #[.int .i64 a0_0, .int .i64 a0_1, .int .i64 a0_2, .slice A0_3 l0_3.length c0_3]) (t := 27) ?hr ?_; (case hd => rfl); (case hg => rfl); (case hr => first | (go_simp; done) | (go_simp; rfl)); intro gb225 hg w54 hbox hb; have n0_ := Aside0.mk (below_step (by repeat (first | (with_reducible first | exact HB.out | apply below_alloc | apply pw_below_drewN | apply below_drew1) | exact HB.out)) hb); have n1_ := Aside0.mk (hbox); have n2_ := Aside0.mk ((by rw [hg]; exact (below_size (by repeat (first | (with_reducible first | exact HB.out | apply below_alloc | apply pw_below_drewN | apply below_drew1) | exact HB.out))) : w.heap.size ≤ gb225)); have n3_ := Aside0.mk ((by rw [hg]; exact (below_size (by repeat (first | (with_reducible first | exact HB.out | apply below_alloc | apply pw_below_drewN | apply below_drew1) | exact HB.out))) : w.heap.size ≤ gb225)); clear HB; have HB := n0_; have BK225 := n1_; have GW225 := n2_; have GE225 := n3_; clear n0_ n1_ n2_ n3_; clear hb hbox hg; have hcz55_0 : w54.cell? ⟨gb225, 0, none⟩ = some (.int .i64 a0_0) := (blk_cell BK225.out 0).trans rfl; have hcz55_1 : w54.cell? ⟨gb225, 1, none⟩ = some (.int .i64 a0_1) := (blk_cell BK225.out 1).trans rfl; have hcz55_2 : w54.cell? ⟨gb225, 2, none⟩ = some (.int .i64 a0_2) := (blk_cell BK225.out 2).trans rfl; have hcz55_3 : w54.cell? ⟨gb225, 3, none⟩ = some (.slice A0_3 l0_3.length c0_3) := (blk_cell BK225.out 3).trans rfl; have hfz55_0 := blk_frozen BK225.out 0; have hfz55_1 := blk_frozen BK225.out 1; have hfz55_2 := blk_frozen BK225.out 2; have hfz55_3 := blk_frozen BK225.out 3) | ((with_reducible refine gate_callee (f := 36) rfl ?_); refine goesL_ (some 18) rfl rfl Try.func36 (by kernel_rfl) rfl #[.agg #[.int .i64 a0_0, .int .i64 a0_1, .int .i64 a0_2, .slice A0_3 l0_3.length c0_3], .slice A1 l1.length c1] rfl (by (try simp only [List.map_toArray, List.map_cons, List.map_nil]); first | done | rfl | (simp only [List.length_drop, List.length_take]; rfl)) ?_; (with_reducible refine (racewayref6_Room.calls k a0_0 a0_1 a0_2 _ _ l0_3 _ _ l1 t226 t229 _ ?side1 ?side2 ?side3 ?side4 A4.out).mono ?_); (case side1 => repeat (first | exact (Kd.C_below HR0_3.out HB.out) | (with_reducible refine Kd.C_alloc ?_ _) | (with_reducible refine Kd.C_drewN ?_ _) | (with_reducible refine Kd.C_drew ?_))); (case side2 => exact HC0_3.out); (case side3 => repeat (first | exact (Kd.C_below HR1.out HB.out) | (with_reducible refine Kd.C_alloc ?_ _) | (with_reducible refine Kd.C_drewN ?_ _) | (with_reducible refine Kd.C_drew ?_))); (case side4 => exact HC1.out); rintro e w56 ⟨v227, rfl, ho0, hb⟩; refine ⟨_, rfl, ?_⟩; have n0_ := Aside0.mk (Kd.R_lower ho0 (below_size (by repeat (first | (with_reducible first | exact HB.out | apply below_alloc | apply pw_below_drewN | apply below_drew1 | refine below_set ?_ GE225.out) | exact HB.out)))); have n1_ := Aside0.mk (blk_below (g := gb225) (o := .cells #[.int .i64 a0_0, .int .i64 a0_1, .int .i64 a0_2, .slice A0_3 l0_3.length c0_3] 27 (0, 0)) (by (with_reducible repeat first | refine blk_drewN ?_ _ | refine blk_drew ?_ | refine blk_alloc ?_ _); exact BK225.out) hb); have n2_ := Aside0.mk (below_step (by repeat (first | (with_reducible first | exact HB.out | apply below_alloc | apply pw_below_drewN | apply below_drew1 | refine below_set ?_ GE225.out) | exact HB.out)) hb); clear BK225; clear HB; have HO228 := n0_; have BK225 := n1_; have HB := n2_; clear n0_ n1_ n2_; (try clear hb); (try clear hk); (try clear ho0)))
   go_ret2
   exact ⟨_, by first | rfl | (simp [errW_none, errW_some] <;> rfl) | (simp [*, errW_none, errW_some] <;> rfl), by first | exact Kd.R_nil _ _ _ _ _ | exact Kd.N_nil _ _ _ _ _ | exact Kd.V_nil _ _ _ _ _ | exact Kd.Q_nil _ _ _ _ _ | exact Kd.S_nil _ _ _ _ _, by repeat (first | (with_reducible first | exact HB.out | apply below_alloc | apply pw_below_drewN | apply below_drew1 | refine below_set ?_ GE225.out) | exact HB.out)⟩
end Go.Proofs.Ytbppeffcikphcaa.PResidualTells
