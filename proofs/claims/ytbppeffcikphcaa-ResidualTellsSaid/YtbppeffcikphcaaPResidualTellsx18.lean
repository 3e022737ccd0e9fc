/- For the law ResidualTells, for every input: printed by a program (wip/myprint), contracts by hand where it says MANUAL. -/
-- slim
import Derived.Test.YtbppeffcikphcaaPResidualTellsx0
import Derived.Test.YtbppeffcikphcaaPResidualTellsx17
namespace Go.Proofs.Ytbppeffcikphcaa.PResidualTells
open Go.RowKit Go.Proofs.YtbppeffcikphcaaW.PrintWords Go.Proofs.YtbppeffcikphcaaW.PrintLast Go.Proofs.YtbppeffcikphcaaW.PrintMore
attribute [local go_sem] max2_int min2_int max_two min_two max_three min_three max_four min_four
set_option linter.unusedVariables false
set_option linter.unusedSimpArgs false
/-! ### racewayref6_Room: function 36 -/
def racewayref6_Room.l0 : Nat → List Int → List Int → Int → Int → Int → Int → List (S49) → Option (List Int × Int)
 | 0, _, _, _, _, _, _, _ => none
 | k + 1, x1, x7, x8, x190000, x190001, x190002, x190003 => if x8 < (x1.length : Int) then (if 0 ≤ x8 then (if x8 < (x190003.length : Int) then (if x7.length < 17592186044416 then ((some (x7 ++ [wrap64 (((rd_T49 x190003 x8).f2) - (rd x1 x8))] : List Int)).bind fun y193 => (if y193.length < 17592186044416 then (racewayref6_Room.l0 k x1 (y193 ++ [rd x1 x8]) (wrap64 (x8 + 1)) x190000 x190001 x190002 x190003) else (none))) else (none)) else (none)) else (none)) else (some (x7, 0))
def racewayref6_Room.f (k : Nat) (a0_0 : Int) (a0_1 : Int) (a0_2 : Int) (l0_3 : List (S49)) (l1 : List Int) : Option (List Int × Int) := (racewayref5_Check.f k a0_0 a0_1 a0_2 l0_3 l1).bind fun t190 => (if t190 = 0 then (racewayref6_Room.l0 k l1 ([] : List Int) 0 a0_0 a0_1 a0_2 l0_3) else (some (([] : List Int), t190)))
theorem racewayref6_Room.mono_l : ∀ k, (∀ y0 y1 y2 y3 y4 y5 y6, LeO (racewayref6_Room.l0 k y0 y1 y2 y3 y4 y5 y6) (racewayref6_Room.l0 (k + 1) y0 y1 y2 y3 y4 y5 y6))
 | 0 => fun _ _ _ _ _ _ _ r h => by simp [racewayref6_Room.l0] at h
 | k + 1 => by
  have ih0 := racewayref6_Room.mono_l k
  ·intro y0 y1 y2 y3 y4 y5 y6
   unfold racewayref6_Room.l0
   repeat' first
   | (with_reducible exact ih0 _ _ _ _ _ _ _)
   | (with_reducible exact racewayref5_Check.mono _ _ _ _ _ _)
   | (with_reducible exact LeO.refl _)
   | (with_reducible exact LeO.none _)
   | (with_reducible refine LeO.ite ?_ ?_)
   | (with_reducible refine LeO.bind ?_ (fun _ => ?_))
   | exact ih0 _ _ _ _ _ _ _
   | exact racewayref5_Check.mono _ _ _ _ _ _
   | exact LeO.none _
   | refine LeO.ite ?_ ?_
   | refine LeO.bind ?_ (fun _ => ?_)
theorem racewayref6_Room.mono : ∀ a0 a1 a2 a3 a4 k, LeO (racewayref6_Room.f k a0 a1 a2 a3 a4) (racewayref6_Room.f (k + 1) a0 a1 a2 a3 a4) := by
 intro a0 a1 a2 a3 a4 k
 have ih0 := racewayref6_Room.mono_l k
 unfold racewayref6_Room.f
 repeat' first
   | (with_reducible exact ih0 _ _ _ _ _ _ _)
   | (with_reducible exact racewayref5_Check.mono _ _ _ _ _ _)
   | (with_reducible exact LeO.refl _)
   | (with_reducible exact LeO.none _)
   | (with_reducible refine LeO.ite ?_ ?_)
   | (with_reducible refine LeO.bind ?_ (fun _ => ?_))
   | exact ih0 _ _ _ _ _ _ _
   | exact racewayref5_Check.mono _ _ _ _ _ _
   | exact LeO.none _
   | refine LeO.ite ?_ ?_
   | refine LeO.bind ?_ (fun _ => ?_)
def racewayref6_Room.T8 : Bool × List (List Nat × List Nat) := (true, [([], []), ([], []), ([1], [1]), ([], []), ([2, 3], [2, 3]), ([4], [4]), ([5], [5]), ([], []), ([], []), ([7, 8], [7, 8]), ([9], [9]), ([6, 10], [6, 10]), ([11], [11]), ([0, 12], [0, 12]), ([13, 13, 0, 1, 2, 3, 4, 5, 6, 7, 8, 9, 10, 11, 12, 13], [0, 13])])
def racewayref6_Room.B8 : List Nat := [0, 0, 2, 0, 14, 30, 62, 0, 0, 384, 896, 2046, 4094, 8191, 16383]
theorem racewayref6_Room.tab8 : rtab .any (opsOf Try.f36 8) = racewayref6_Room.T8 := by kernel_rfl
theorem racewayref6_Room.bits8 : waitsOk racewayref6_Room.T8.2 racewayref6_Room.B8 = true := by kernel_rfl
set_option maxHeartbeats 8000000 in
set_option maxRecDepth 100000 in
theorem racewayref6_Room.calls (k : Nat) (a0_0 : Int) (a0_1 : Int) (a0_2 : Int) (A0_3 : Option Addr) (c0_3 : Nat) (l0_3 : List (S49)) (A1 : Option Addr) (c1 : Nat) (l1 : List Int) (r1 : List Int) (r2 : Int) (w : World) (hr0_3 : Kd.C k49 w A0_3 l0_3.length l0_3) (hc0_3 : l0_3.length ≤ c0_3) (hr1 : Kd.C (Kd.int .i64) w A1 l1.length l1) (hc1 : l1.length ≤ c1) (h : racewayref6_Room.f k a0_0 a0_1 a0_2 l0_3 l1 = some (r1, r2)) :
  Calls Try.prog 36 #[.agg #[.int .i64 a0_0, .int .i64 a0_1, .int .i64 a0_2, .slice A0_3 l0_3.length c0_3], .slice A1 l1.length c1] w fun e w' => ∃ v0_ : Value, e = .returned (.tuple #[v0_, .int .i64 r2]) ∧ Kd.R (Kd.int .i64) 2 w' w.heap.size (fun _ => True) v0_ r1 ∧ Below w.heap.size w w' := by
 have hu27 := Try.underlying27
 have HR0_3 := Aside0.mk hr0_3
 have HC0_3 := Aside0.mk hc0_3
 clear hr0_3 hc0_3
 have HR1 := Aside0.mk hr1
 have HC1 := Aside0.mk hc1
 clear hr1 hc1
 have HB := Aside0.mk (Below.refl w.heap.size w)
 have H : ((racewayref5_Check.f k a0_0 a0_1 a0_2 l0_3 l1).bind fun t190 => (if t190 = 0 then (racewayref6_Room.l0 k l1 ([] : List Int) 0 a0_0 a0_1 a0_2 l0_3) else (some (([] : List Int), t190)))) = some (r1, r2) := h
 clear h
 replace H := Option.bind_eq_some_iff.mp H
 obtain ⟨t190, A30, H⟩ := H
 replace H : (if t190 = 0 then (racewayref6_Room.l0 k l1 ([] : List Int) 0 a0_0 a0_1 a0_2 l0_3) else (some (([] : List Int), t190))) = some (r1, r2) := H
 have A3 := Aside0.mk A30
 clear A30
 by_cases c4 : t190 = 0
 ·rw [if_pos c4] at H
  have c4b0 : (t190 == 0) = true := beq_iff_eq.mpr c4
  have c4b1 : (t190 != 0) = false := bne_eq_false_iff_eq.mpr c4
  clear c4
  have H' := Aside0.mk H
  clear H
  go_enter Try.func36, Try.ntmps36
  go_wp2_with (first | ((with_reducible refine gate_dst (N := 2) rfl ?_); refine box_event ?hg (N := 2) ?hd (cs := #[.int .i64 a0_0, .int .i64 a0_1, .int .i64 a0_2, .slice A0_3 l0_3.length c0_3]) (t := 27) ?hr ?_; (case hd => rfl); (case hg => rfl); (case hr => first | (go_simp; done) | (go_simp; rfl)); intro gb189 hg w5 hbox hb; have n0_ := Aside0.mk (below_step (by repeat (first | (with_reducible first | exact HB.out | apply below_alloc | apply pw_below_drewN | apply below_drew1) | exact HB.out)) hb); have n1_ := Aside0.mk (hbox); have n2_ := Aside0.mk ((by rw [hg]; exact (below_size (by repeat (first | (with_reducible first | exact HB.out | apply below_alloc | apply pw_below_drewN | apply below_drew1) | exact HB.out))) : w.heap.size ≤ gb189)); have n3_ := Aside0.mk ((by rw [hg]; exact (below_size (by repeat (first | (with_reducible first | exact HB.out | apply below_alloc | apply pw_below_drewN | apply below_drew1) | exact HB.out))) : w.heap.size ≤ gb189)); clear HB; have HB := n0_; have BK189 := n1_; have GW189 := n2_; have GE189 := n3_; clear n0_ n1_ n2_ n3_; clear hb hbox hg; have hcz6_0 : w5.cell? ⟨gb189, 0, none⟩ = some (.int .i64 a0_0) := (blk_cell BK189.out 0).trans rfl; have hcz6_1 : w5.cell? ⟨gb189, 1, none⟩ = some (.int .i64 a0_1) := (blk_cell BK189.out 1).trans rfl; have hcz6_2 : w5.cell? ⟨gb189, 2, none⟩ = some (.int .i64 a0_2) := (blk_cell BK189.out 2).trans rfl; have hcz6_3 : w5.cell? ⟨gb189, 3, none⟩ = some (.slice A0_3 l0_3.length c0_3) := (blk_cell BK189.out 3).trans rfl; have hfz6_0 := blk_frozen BK189.out 0; have hfz6_1 := blk_frozen BK189.out 1; have hfz6_2 := blk_frozen BK189.out 2; have hfz6_3 := blk_frozen BK189.out 3) | ((with_reducible refine gate_callee (f := 50) rfl ?_); refine goesL_ (some 11) rfl rfl Try.func50 (by kernel_rfl) rfl #[.agg #[.int .i64 a0_0, .int .i64 a0_1, .int .i64 a0_2, .slice A0_3 l0_3.length c0_3], .slice A1 l1.length c1] rfl (by (try simp only [List.map_toArray, List.map_cons, List.map_nil]); first | done | rfl | (simp only [List.length_drop, List.length_take]; rfl)) ?_; (with_reducible refine (racewayref5_Check.calls k a0_0 a0_1 a0_2 _ _ l0_3 _ _ l1 t190 _ ?side1 ?side2 ?side3 ?side4 A3.out).mono ?_); (case side1 => repeat (first | exact (Kd.C_below HR0_3.out HB.out) | (with_reducible refine Kd.C_alloc ?_ _) | (with_reducible refine Kd.C_drewN ?_ _) | (with_reducible refine Kd.C_drew ?_))); (case side2 => exact HC0_3.out); (case side3 => repeat (first | exact (Kd.C_below HR1.out HB.out) | (with_reducible refine Kd.C_alloc ?_ _) | (with_reducible refine Kd.C_drewN ?_ _) | (with_reducible refine Kd.C_drew ?_))); (case side4 => exact HC1.out); rintro e w7 ⟨rfl, hb⟩; refine ⟨_, rfl, ?_⟩; have n0_ := Aside0.mk (blk_below (g := gb189) (o := .cells #[.int .i64 a0_0, .int .i64 a0_1, .int .i64 a0_2, .slice A0_3 l0_3.length c0_3] 27 (0, 0)) (by (with_reducible repeat first | refine blk_drewN ?_ _ | refine blk_drew ?_ | refine blk_alloc ?_ _); exact BK189.out) hb); have n1_ := Aside0.mk (below_step (by repeat (first | (with_reducible first | exact HB.out | apply below_alloc | apply pw_below_drewN | apply below_drew1 | refine below_set ?_ GE189.out) | exact HB.out)) hb); clear BK189; clear HB; have BK189 := n0_; have HB := n1_; clear n0_ n1_; (try clear hb); (try clear hk)))
  go_loopg [7, 8] k (fun kq v7 v8 w' => ∃ (x7_1 : List Int) (x8_1 : Int), v8 = .int .i64 x8_1 ∧ Aside0 (racewayref6_Room.l0 kq l1 x7_1 x8_1 a0_0 a0_1 a0_2 l0_3 = some (r1, r2)) ∧ Aside0 (kq ≤ k) ∧ Aside0 (Kd.R (Kd.int .i64) 2 w' w.heap.size (fun _ => True) v7 x7_1) ∧ Aside0 (w'.heap[gb189]? = some (.cells #[.int .i64 a0_0, .int .i64 a0_1, .int .i64 a0_2, (.slice A0_3 l0_3.length c0_3)] 27 (0, 0))) ∧ Aside0 (Below w.heap.size w w'))
  case atStart => exact ⟨(([] : List Int)), (0), (by first | rfl | (simp; done) | (simp [*]; done)), H', ⟨Nat.le_refl _⟩, ⟨by first | exact Kd.R_nil _ _ _ _ _ | exact Kd.N_nil _ _ _ _ _ | exact Kd.V_nil _ _ _ _ _ | exact Kd.Q_nil _ _ _ _ _ | exact Kd.S_nil _ _ _ _ _⟩, ⟨by (with_reducible repeat first | refine blk_drewN ?_ _ | refine blk_drew ?_ | refine blk_alloc ?_ _); exact BK189.out⟩, ⟨by repeat (first | (with_reducible first | exact HB.out | apply below_alloc | apply pw_below_drewN | apply below_drew1 | refine below_set ?_ GE189.out) | exact HB.out)⟩⟩
  case round =>
   clear H'
   try clear c1
   try clear p2
   try clear c3
   try clear c4
   try clear c4b0
   try clear c4b1
   try clear c5
   try clear hcz6_0
   try clear hcz6_1
   try clear hcz6_2
   try clear hcz6_3
   try clear hfz6_0
   try clear hfz6_1
   try clear hfz6_2
   try clear hfz6_3
   obtain ⟨x7_1, x8_1, rfl, HA, HK1, HO_7, BK189, HB⟩ := hrel
   cases gk with
   | zero => exact absurd HA.out (by simp [racewayref6_Room.l0])
   | succ k1 =>
    (have H := HA.out);(clear HA);(simp only [racewayref6_Room.l0] at H)
    by_cases c8 : x8_1 < (l1.length : Int)
    ·(rw [if_pos c8] at H);(have c8b0 : decide (x8_1 < (l1.length : Int)) = true := decide_eq_true c8);(clear c8)
     by_cases c9 : 0 ≤ x8_1
     ·(rw [if_pos c9] at H);(have c9b0 : decide (0 ≤ x8_1) = true := decide_eq_true c9);(clear c9)
      by_cases c10 : x8_1 < (l0_3.length : Int)
      ·(rw [if_pos c10] at H);(have c10b0 : decide (x8_1 < (l0_3.length : Int)) = true := decide_eq_true c10);(clear c10)
       by_cases c11 : x7_1.length < 17592186044416
       ·(rw [if_pos c11] at H);(have LMc11 := Aside0.mk c11);(clear c11);(obtain ⟨y193, hy193⟩ : ∃ y_ : List Int, y_ = (x7_1 ++ [wrap64 (((rd_T49 l0_3 x8_1).f2) - (rd l1 x8_1))]) := ⟨_, rfl⟩);(replace H : (if y193.length < 17592186044416 then (racewayref6_Room.l0 k1 l1 (y193 ++ [rd l1 x8_1]) (wrap64 (x8_1 + 1)) a0_0 a0_1 a0_2 l0_3) else (none)) = some (r1, r2) := by first | (rw [hy193]; with_reducible exact H) | (have H2_ := (Option.bind_some _ _).symm.trans H; rw [hy193]; with_reducible exact H2_) | (have H2_ := (Option.bind_some _ _).symm.trans H; with_reducible exact H2_) | with_reducible exact H | (rw [hy193]; exact H) | exact H);(have Ny193 := Aside0.mk hy193);(clear hy193)
        by_cases c12 : y193.length < 17592186044416
        ·(rw [if_pos c12] at H);(have LMc12 := Aside0.mk c12);(clear c12);(obtain ⟨y197, hy197⟩ : ∃ y_ : List Int, y_ = (y193 ++ [rd l1 x8_1]) := ⟨_, rfl⟩);(replace H : (racewayref6_Room.l0 k1 l1 y197 (wrap64 (x8_1 + 1)) a0_0 a0_1 a0_2 l0_3) = some (r1, r2) := by first | (rw [hy197]; with_reducible exact H) | (have H2_ := (Option.bind_some _ _).symm.trans H; rw [hy197]; with_reducible exact H2_) | (have H2_ := (Option.bind_some _ _).symm.trans H; with_reducible exact H2_) | with_reducible exact H | (rw [hy197]; exact H) | exact H);(have Ny197 := Aside0.mk hy197);(clear hy197)
         as_aux_lemma =>
          (have H' := Aside0.mk H);(clear H)
          try go_wp2
          (have n0_ := Aside0.mk (Kd.R_drew HO_7.out));(have n1_ := Aside0.mk (blk_drew BK189.out));(have n2_ := Aside0.mk (below_drew1 HB.out));(clear HO_7);(clear BK189);(clear HB);(have HO_7 := n0_);(have BK189 := n1_);(have HB := n2_);(clear n0_ n1_ n2_);(have p191 : 0 ≤ (x8_1 : Int) := of_decide_eq_true (by first | (with_reducible assumption) | assumption));(have q191 : x8_1 < (l0_3.length : Int) := of_decide_eq_true (by first | (with_reducible assumption) | assumption));(obtain ⟨ad191, e191, hx191_0, hx191_1, hx191_2⟩ := at_T49 HR0_3.out x8_1 p191 q191);(have hw191_2 := hx191_2);(have hw191_1 := hx191_1);(have hw191_0 := hx191_0);(cases e191);(replace hx191_0 := (HB.out.cell (World.block_lt_of_cell? w _ hx191_0)).trans hx191_0);(replace hx191_1 := (HB.out.cell (World.block_lt_of_cell? w _ hx191_1)).trans hx191_1);(replace hx191_2 := (HB.out.cell (World.block_lt_of_cell? w _ hx191_2)).trans hx191_2);(replace p191 := eq_true p191);(replace q191 := eq_true q191);(have p192 : 0 ≤ (x8_1 : Int) := of_decide_eq_true (by first | (with_reducible assumption) | assumption));(have q192 : x8_1 < (l1.length : Int) := of_decide_eq_true (by first | (with_reducible assumption) | assumption));(obtain ⟨ad192, e192, hx192_0⟩ := Kd.at_int HR1.out x8_1 p192 q192);(have hw192_0 := hx192_0);(cases e192);(replace hx192_0 := (HB.out.cell (World.block_lt_of_cell? w _ hx192_0)).trans hx192_0);(replace p192 := eq_true p192);(replace q192 := eq_true q192);(refine start_ (n := 15) (S := fun w' => w'.cell? ⟨gb189, 0, none⟩ = some (.int .i64 a0_0) ∧ w'.cell? ⟨gb189, 1, none⟩ = some (.int .i64 a0_1) ∧ w'.cell? ⟨gb189, 2, none⟩ = some (.int .i64 a0_2) ∧ w'.cell? ⟨gb189, 3, none⟩ = some (.slice (some ad191) l0_3.length c0_3) ∧ w'.cell? (ad191.add ((x8_1).toNat * 3)) = some (.int .i64 ((rd_T49 l0_3 x8_1).f0)) ∧ w'.cell? ⟨(ad191.add ((x8_1).toNat * 3)).block, (ad191.add ((x8_1).toNat * 3)).off + 1, none⟩ = some (.int .i64 ((rd_T49 l0_3 x8_1).f1)) ∧ w'.cell? ⟨(ad191.add ((x8_1).toNat * 3)).block, (ad191.add ((x8_1).toNat * 3)).off + 2, none⟩ = some (.int .i64 ((rd_T49 l0_3 x8_1).f2)) ∧ w'.cell? (ad192.add (x8_1).toNat) = some (.int .i64 (rd l1 x8_1))) (ds := []) #[false, false, false, false, false, false, false, false, false, false, false, false, false, false, false] (by kernel_rfl) rfl rfl ⟨(blk_cell BK189.out 0).trans rfl, (blk_cell BK189.out 1).trans rfl, (blk_cell BK189.out 2).trans rfl, (blk_cell BK189.out 3).trans rfl, ((HB.out.cell (World.block_lt_of_cell? w _ hw191_0)).trans hw191_0), ((HB.out.cell (World.block_lt_of_cell? w _ hw191_1)).trans hw191_1), ((HB.out.cell (World.block_lt_of_cell? w _ hw191_2)).trans hw191_2), ((HB.out.cell (World.block_lt_of_cell? w _ hw192_0)).trans hw192_0)⟩ (fun hHeld => ?_); refine with_tabW racewayref6_Room.tab8 racewayref6_Room.bits8 (fun HT_ HW_ => ?_));(generalize wr.drew = w13 at HO_7 BK189 HB hx191_0 hx191_1 hx191_2 hx192_0 hHeld ⊢);(refine pure_ (i := 0) (N := some 21) (v := ?_) (a' := ?_) #[true, false, false, false, false, false, false, false, false, false, false, false, false, false, false] rfl rfl (any_of HT_.out (by kernel_rfl)) (fun _ _ _ h => h) (Or.inl ⟨by rfl, ?_⟩) ?_ ?_)
          rotate_left
          ·intro w'
           go_simp
           with_reducible rfl
          rotate_left
          ·simp only [Act.put, List.setIfInBounds_toArray, List.set_cons_zero, List.set_cons_succ, i64_w, i32_w]
           rfl
          refine pure_ (i := 1) (N := some 22) (v := ?_) (a' := ?_) #[true, true, false, false, false, false, false, false, false, false, false, false, false, false, false] rfl rfl (any_of HT_.out (by kernel_rfl)) (fun _ _ _ h => h) (Or.inl ⟨by rfl, ?_⟩) ?_ ?_
          rotate_left
          ·intro w'
           go_simp
           with_reducible rfl
          rotate_left
          ·simp only [Act.put, List.setIfInBounds_toArray, List.set_cons_zero, List.set_cons_succ, i64_w, i32_w]
           rfl
          refine pure_ (i := 3) (N := some 24) (v := ?_) (a' := ?_) #[true, true, false, true, false, false, false, false, false, false, false, false, false, false, false] rfl rfl (any_of HT_.out (by kernel_rfl)) (fun _ _ _ h => h) (Or.inl ⟨by rfl, ?_⟩) ?_ ?_
          rotate_left
          ·intro w'
           go_simp
           with_reducible rfl
          rotate_left
          ·simp only [Act.put, List.setIfInBounds_toArray, List.set_cons_zero, List.set_cons_succ, i64_w, i32_w]
           rfl
          refine pure_ (i := 7) (N := some 28) (v := ?_) (a' := ?_) #[true, true, false, true, false, false, false, true, false, false, false, false, false, false, false] rfl rfl (any_of HT_.out (by kernel_rfl)) (fun _ _ _ h => h) (Or.inl ⟨by rfl, ?_⟩) ?_ ?_
          rotate_left
          ·intro w'
           go_simp
           with_reducible rfl
          rotate_left
          ·simp only [Act.put, List.setIfInBounds_toArray, List.set_cons_zero, List.set_cons_succ, i64_w, i32_w]
           rfl
          refine pure_ (i := 8) (N := some 29) (v := ?_) (a' := ?_) #[true, true, false, true, false, false, false, true, true, false, false, false, false, false, false] rfl rfl (any_of HT_.out (by kernel_rfl)) (fun _ _ _ h => h) (Or.inl ⟨by rfl, ?_⟩) ?_ ?_
          rotate_left
          ·intro w'
           go_simp
           with_reducible rfl
          rotate_left
          ·simp only [Act.put, List.setIfInBounds_toArray, List.set_cons_zero, List.set_cons_succ, i64_w, i32_w]
           rfl
          refine pure_ (i := 9) (N := some 30) (v := ?_) (a' := ?_) #[true, true, false, true, false, false, false, true, true, true, false, false, false, false, false] rfl rfl (any_of HT_.out (by kernel_rfl)) (fun _ _ _ h => h) (Or.inl ⟨by rfl, ?_⟩) ?_ ?_
          rotate_left
          ·intro w'
           go_simp
           with_reducible rfl
          rotate_left
          ·simp only [Act.put, List.setIfInBounds_toArray, List.set_cons_zero, List.set_cons_succ, i64_w, i32_w]
           rfl
          refine take_ (i := 2) (N := some 23) (v := ?_) (a' := ?_) #[true, true, true, true, false, false, false, true, true, true, false, false, false, false, false] rfl rfl (take_ofW HT_.out HW_.out (by kernel_rfl)) (fun _ _ _ h => h) (Or.inl ⟨by rfl, ?_⟩) hHeld ?_ ?_
          rotate_left
          ·rintro w' ⟨s0, s1, s2, s3, s4, s5, s6, s7⟩
           go_simp
           with_reducible rfl
          rotate_left
          ·simp only [Act.put, List.setIfInBounds_toArray, List.set_cons_zero, List.set_cons_succ, i64_w, i32_w]
           rfl
          refine pure_ (i := 4) (N := some 25) (v := ?_) (a' := ?_) #[true, true, true, true, true, false, false, true, true, true, false, false, false, false, false] rfl rfl (any_of HT_.out (by kernel_rfl)) (fun _ _ _ h => h) (Or.inl ⟨by rfl, ?_⟩) ?_ ?_
          rotate_left
          ·intro w'
           go_simp
           with_reducible rfl
          rotate_left
          ·simp only [Act.put, List.setIfInBounds_toArray, List.set_cons_zero, List.set_cons_succ, i64_w, i32_w]
           rfl
          refine pure_ (i := 5) (N := some 26) (v := ?_) (a' := ?_) #[true, true, true, true, true, true, false, true, true, true, false, false, false, false, false] rfl rfl (any_of HT_.out (by kernel_rfl)) (fun _ _ _ h => h) (Or.inl ⟨by rfl, ?_⟩) ?_ ?_
          rotate_left
          ·intro w'
           go_simp
           with_reducible rfl
          rotate_left
          ·simp only [Act.put, List.setIfInBounds_toArray, List.set_cons_zero, List.set_cons_succ, i64_w, i32_w]
           rfl
          refine take_ (i := 6) (N := some 27) (v := ?_) (a' := ?_) #[true, true, true, true, true, true, true, true, true, true, false, false, false, false, false] rfl rfl (take_ofW HT_.out HW_.out (by kernel_rfl)) (fun _ _ _ h => h) (Or.inl ⟨by rfl, ?_⟩) hHeld ?_ ?_
          rotate_left
          ·rintro w' ⟨s0, s1, s2, s3, s4, s5, s6, s7⟩
           go_simp
           with_reducible rfl
          rotate_left
          ·simp only [Act.put, List.setIfInBounds_toArray, List.set_cons_zero, List.set_cons_succ, i64_w, i32_w]
           rfl
          refine take_ (i := 10) (N := some 31) (v := ?_) (a' := ?_) #[true, true, true, true, true, true, true, true, true, true, true, false, false, false, false] rfl rfl (take_ofW HT_.out HW_.out (by kernel_rfl)) (fun _ _ _ h => h) (Or.inl ⟨by rfl, ?_⟩) hHeld ?_ ?_
          rotate_left
          ·rintro w' ⟨s0, s1, s2, s3, s4, s5, s6, s7⟩
           go_simp
           with_reducible rfl
          rotate_left
          ·simp only [Act.put, List.setIfInBounds_toArray, List.set_cons_zero, List.set_cons_succ, i64_w, i32_w]
           rfl
          refine pure_ (i := 11) (N := some 32) (v := ?_) (a' := ?_) #[true, true, true, true, true, true, true, true, true, true, true, true, false, false, false] rfl rfl (any_of HT_.out (by kernel_rfl)) (fun _ _ _ h => h) (Or.inl ⟨by rfl, ?_⟩) ?_ ?_
          rotate_left
          ·intro w'
           go_simp
           with_reducible rfl
          rotate_left
          ·simp only [Act.put, List.setIfInBounds_toArray, List.set_cons_zero, List.set_cons_succ, i64_w, i32_w]
           rfl
          (refine one_ (i := 12) (N := some 33) #[true, true, true, true, true, true, true, true, true, true, true, true, true, false, false] rfl rfl (one_of HT_.out (by kernel_rfl)) (by decide) (fun K hK => ?_));(refine value_ (w1 := ?_) (v := ?_) (by rfl) rfl ?_ ?_)
          rotate_left 2
          ·go_simp
           constructor
           ·rfl
           ·rfl
          (refine hK.out _ _ ⟨(blk_cell (blk_alloc BK189.out _) 0).trans rfl, (blk_cell (blk_alloc BK189.out _) 1).trans rfl, (blk_cell (blk_alloc BK189.out _) 2).trans rfl, (blk_cell (blk_alloc BK189.out _) 3).trans rfl, (World.cell?_alloc_lt _ _ _ (World.block_lt_of_cell? _ _ (((HB.out.cell (World.block_lt_of_cell? w _ hw191_0)).trans hw191_0)))).trans (((HB.out.cell (World.block_lt_of_cell? w _ hw191_0)).trans hw191_0)), (World.cell?_alloc_lt _ _ _ (World.block_lt_of_cell? _ _ (((HB.out.cell (World.block_lt_of_cell? w _ hw191_1)).trans hw191_1)))).trans (((HB.out.cell (World.block_lt_of_cell? w _ hw191_1)).trans hw191_1)), (World.cell?_alloc_lt _ _ _ (World.block_lt_of_cell? _ _ (((HB.out.cell (World.block_lt_of_cell? w _ hw191_2)).trans hw191_2)))).trans (((HB.out.cell (World.block_lt_of_cell? w _ hw191_2)).trans hw191_2)), (World.cell?_alloc_lt _ _ _ (World.block_lt_of_cell? _ _ (((HB.out.cell (World.block_lt_of_cell? w _ hw192_0)).trans hw192_0)))).trans (((HB.out.cell (World.block_lt_of_cell? w _ hw192_0)).trans hw192_0))⟩ (fun hHeld => ?_));(clear hK K);(refine norm_ (a' := ?_) ?_ ?_)
          rotate_left
          ·show Act.put _ (some 33) _ = _
           simp only [Act.put, List.setIfInBounds_toArray, List.set_cons_zero, List.set_cons_succ, i64_w, i32_w]
           rfl
          (refine one_ (i := 13) (N := some 34) #[true, true, true, true, true, true, true, true, true, true, true, true, true, true, false] rfl rfl (one_of HT_.out (by kernel_rfl)) (by decide) (fun K hK => ?_));(refine Kd.R_append_step (Kd.int .i64) (w0 := w) w.heap.size (by rfl) (.tmp 21) (.tmp 33) 29 2 (.int .i64 0) 8 rfl Try.underlying29 info2 rfl (by decide) (by omega) u7 x7_1 (wrap64 (((rd_T49 l0_3 x8_1).f2) - (rd l1 x8_1))) [.int .i64 (wrap64 (((rd_T49 l0_3 x8_1).f2) - (rd l1 x8_1)))] (fun _ => True) (fun _ => False) rfl rfl ?aP (fun _ hk => hk.elim) ?aF ?aO ?aB ?aS ?aL ?_)
          (case aP => exact rfl)
          (case aB => exact (by repeat (first | (with_reducible first | exact HB.out | apply below_alloc | apply pw_below_drewN | apply below_drew1 | refine below_set ?_ GE189.out) | exact HB.out)))
          (case aF => exact (fun _ _ => trivial))
          (case aO => exact (by (with_reducible repeat first | apply Kd.R_alloc | apply Kd.R_drewN | apply Kd.R_drew); exact HO_7.out))
          (case aS => exact (below_size (by repeat (first | (with_reducible first | exact HB.out | apply below_alloc | apply pw_below_drewN | apply below_drew1 | refine below_set ?_ GE189.out) | exact HB.out))))
          (case aL => have := LMc11.out; omega)
          (intro v194 w14 ho hb hg hat);(rw [← Ny193.out] at ho);(have n0_ := Aside0.mk (blk_grown (g := gb189) (o := .cells #[.int .i64 a0_0, .int .i64 a0_1, .int .i64 a0_2, .slice (some ad191) l0_3.length c0_3] 27 (0, 0)) (by (with_reducible repeat first | refine blk_drewN ?_ _ | refine blk_drew ?_ | refine blk_alloc ?_ _); exact BK189.out) hg (Kd.R_ne HO_7.out BK189.out (by decide))));(have n1_ := Aside0.mk (hb));(have n2_ := Aside0.mk (ho));(clear BK189);(clear HB);(clear HO_7);(have BK189 := n0_);(have HB := n1_);(have HO195 := n2_);(clear n0_ n1_ n2_);(clear ho hb hg hat);(refine hK.out _ _ ⟨(blk_cell BK189.out 0).trans rfl, (blk_cell BK189.out 1).trans rfl, (blk_cell BK189.out 2).trans rfl, (blk_cell BK189.out 3).trans rfl, ((HB.out.cell (World.block_lt_of_cell? w _ hw191_0)).trans hw191_0), ((HB.out.cell (World.block_lt_of_cell? w _ hw191_1)).trans hw191_1), ((HB.out.cell (World.block_lt_of_cell? w _ hw191_2)).trans hw191_2), ((HB.out.cell (World.block_lt_of_cell? w _ hw192_0)).trans hw192_0)⟩ (fun hHeld => ?_));(clear hK K);(refine norm_ (a' := ?_) ?_ ?_)
          rotate_left
          ·show Act.put _ (some 34) _ = _
           simp only [Act.put, List.setIfInBounds_toArray, List.set_cons_zero, List.set_cons_succ, i64_w, i32_w]
           rfl
          refine pure_ (i := 14) (N := some 7) (v := ?_) (a' := ?_) #[true, true, true, true, true, true, true, true, true, true, true, true, true, true, true] rfl rfl (any_of HT_.out (by kernel_rfl)) (fun _ _ _ h => h) (Or.inl ⟨by rfl, ?_⟩) ?_ ?_
          rotate_left
          ·intro w'
           go_simp
           with_reducible rfl
          rotate_left
          ·simp only [Act.put, List.setIfInBounds_toArray, List.set_cons_zero, List.set_cons_succ, i64_w, i32_w]
           rfl
          (refine done_ (done_of HT_.out (by kernel_rfl)) ?_);(have p196 : 0 ≤ (x8_1 : Int) := of_decide_eq_true (by first | (with_reducible assumption) | assumption));(have q196 : x8_1 < (l1.length : Int) := of_decide_eq_true (by first | (with_reducible assumption) | assumption));(obtain ⟨ad196, e196, hx196_0⟩ := Kd.at_int HR1.out x8_1 p196 q196);(obtain rfl : ad192 = ad196 := (by injection e196));(replace hx196_0 := (HB.out.cell (World.block_lt_of_cell? w _ hx196_0)).trans hx196_0);(replace p196 := eq_true p196);(replace q196 := eq_true q196)
          try go_wp2_with (first | ((with_reducible refine gate_builtin (b := .append) (xs := #[.tmp 35, .tmp 40]) rfl ?_); at_builtin; refine Kd.R_append (Kd.int .i64) (w0 := w) w.heap.size rfl (.tmp 35) (.tmp 40) 29 2 (.int .i64 0) 8 rfl Try.underlying29 info2 rfl (by decide) (by omega) v194 y193 (rd l1 x8_1) [.int .i64 (rd l1 x8_1)] (fun _ => True) (fun _ => False) rfl rfl ?aP (fun _ hk => hk.elim) ?aF ?aO ?aB ?aS ?aL ?_; (case aP => exact rfl); (case aB => exact (by repeat (first | (with_reducible first | exact HB.out | apply below_alloc | apply pw_below_drewN | apply below_drew1 | refine below_set ?_ GE189.out) | exact HB.out))); (case aF => exact (fun _ _ => trivial)); (case aO => exact (by (with_reducible repeat first | apply Kd.R_alloc | apply Kd.R_drewN | apply Kd.R_drew); exact HO195.out)); (case aS => exact (below_size (by repeat (first | (with_reducible first | exact HB.out | apply below_alloc | apply pw_below_drewN | apply below_drew1 | refine below_set ?_ GE189.out) | exact HB.out)))); (case aL => have := LMc12.out; omega); intro v198 w15 ho hb hg hat; rw [← Ny197.out] at ho; have n0_ := Aside0.mk (blk_grown (g := gb189) (o := .cells #[.int .i64 a0_0, .int .i64 a0_1, .int .i64 a0_2, .slice (some ad191) l0_3.length c0_3] 27 (0, 0)) (by (with_reducible repeat first | refine blk_drewN ?_ _ | refine blk_drew ?_ | refine blk_alloc ?_ _); exact BK189.out) hg (Kd.R_ne HO195.out BK189.out (by decide))); have n1_ := Aside0.mk (hb); have n2_ := Aside0.mk (ho); clear BK189; clear HB; clear HO195; have BK189 := n0_; have HB := n1_; have HO199 := n2_; clear n0_ n1_ n2_; clear ho hb hg hat))
          go_roundg k1
          case measure => have := HK1.out; omega
          case rel => exact ⟨(y197), (wrap64 (x8_1 + 1)), (by first | rfl | (simp; done) | (simp [*]; done)), H', ⟨by have := HK1.out; omega⟩, ⟨by (with_reducible repeat first | apply Kd.R_alloc | apply Kd.R_drewN | apply Kd.R_drew); exact HO199.out⟩, ⟨by (with_reducible repeat first | refine blk_drewN ?_ _ | refine blk_drew ?_ | refine blk_alloc ?_ _); exact BK189.out⟩, ⟨by repeat (first | (with_reducible first | exact HB.out | apply below_alloc | apply pw_below_drewN | apply below_drew1 | refine below_set ?_ GE189.out) | exact HB.out)⟩⟩
        ·(rw [if_neg c12] at H);(exact absurd H (by simp))
       ·(rw [if_neg c11] at H);(exact absurd H (by simp))
      ·(rw [if_neg c10] at H);(exact absurd H (by simp))
     ·(rw [if_neg c9] at H);(exact absurd H (by simp))
    ·(rw [if_neg c8] at H);(have c8b0 : decide (x8_1 < (l1.length : Int)) = false := decide_eq_false c8);(clear c8)
     as_aux_lemma =>
      (simp only [Option.some.injEq, Prod.mk.injEq] at H);(obtain ⟨rfl, rfl⟩ := H)
      go_wp2
      go_ret2
      exact ⟨_, by first | rfl | (simp [errW_none, errW_some] <;> rfl) | (simp [*, errW_none, errW_some] <;> rfl), by (with_reducible repeat first | apply Kd.R_alloc | apply Kd.R_drewN | apply Kd.R_drew); exact HO_7.out, by repeat (first | (with_reducible first | exact HB.out | apply below_alloc | apply pw_below_drewN | apply below_drew1 | refine below_set ?_ GE189.out) | exact HB.out)⟩
 ·rw [if_neg c4] at H
  have c4b0 : (t190 == 0) = false := beq_eq_false_iff_ne.mpr c4
  have c4b1 : (t190 != 0) = true := bne_iff_ne.mpr c4
  as_aux_lemma =>
   (simp only [Option.some.injEq, Prod.mk.injEq] at H);(obtain ⟨rfl, rfl⟩ := H)
   go_enter Try.func36, Try.ntmps36
   go_wp2_with (first | ((with_reducible refine gate_dst (N := 2) rfl ?_); refine box_event ?hg (N := 2) ?hd (cs := #[.int .i64 a0_0, .int .i64 a0_1, .int .i64 a0_2, .slice A0_3 l0_3.length c0_3]) (t := 27) ?hr ?_; (case hd => rfl); (case hg => rfl); (case hr => first | (go_simp; done) | (go_simp; rfl)); intro gb189 hg w16 hbox hb; have n0_ := Aside0.mk (below_step (by repeat (first | (with_reducible first | exact HB.out | apply below_alloc | apply pw_below_drewN | apply below_drew1) | exact HB.out)) hb); have n1_ := Aside0.mk (hbox); have n2_ := Aside0.mk ((by rw [hg]; exact (below_size (by repeat (first | (with_reducible first | exact HB.out | apply below_alloc | apply pw_below_drewN | apply below_drew1) | exact HB.out))) : w.heap.size ≤ gb189)); have n3_ := Aside0.mk ((by rw [hg]; exact (below_size (by repeat (first | (with_reducible first | exact HB.out | apply below_alloc | apply pw_below_drewN | apply below_drew1) | exact HB.out))) : w.heap.size ≤ gb189)); clear HB; have HB := n0_; have BK189 := n1_; have GW189 := n2_; have GE189 := n3_; clear n0_ n1_ n2_ n3_; clear hb hbox hg; have hcz17_0 : w16.cell? ⟨gb189, 0, none⟩ = some (.int .i64 a0_0) := (blk_cell BK189.out 0).trans rfl; have hcz17_1 : w16.cell? ⟨gb189, 1, none⟩ = some (.int .i64 a0_1) := (blk_cell BK189.out 1).trans rfl; have hcz17_2 : w16.cell? ⟨gb189, 2, none⟩ = some (.int .i64 a0_2) := (blk_cell BK189.out 2).trans rfl; have hcz17_3 : w16.cell? ⟨gb189, 3, none⟩ = some (.slice A0_3 l0_3.length c0_3) := (blk_cell BK189.out 3).trans rfl; have hfz17_0 := blk_frozen BK189.out 0; have hfz17_1 := blk_frozen BK189.out 1; have hfz17_2 := blk_frozen BK189.out 2; have hfz17_3 := blk_frozen BK189.out 3) | ((with_reducible refine gate_callee (f := 50) rfl ?_); refine goesL_ (some 11) rfl rfl Try.func50 (by kernel_rfl) rfl #[.agg #[.int .i64 a0_0, .int .i64 a0_1, .int .i64 a0_2, .slice A0_3 l0_3.length c0_3], .slice A1 l1.length c1] rfl (by (try simp only [List.map_toArray, List.map_cons, List.map_nil]); first | done | rfl | (simp only [List.length_drop, List.length_take]; rfl)) ?_; (with_reducible refine (racewayref5_Check.calls k a0_0 a0_1 a0_2 _ _ l0_3 _ _ l1 t190 _ ?side1 ?side2 ?side3 ?side4 A3.out).mono ?_); (case side1 => repeat (first | exact (Kd.C_below HR0_3.out HB.out) | (with_reducible refine Kd.C_alloc ?_ _) | (with_reducible refine Kd.C_drewN ?_ _) | (with_reducible refine Kd.C_drew ?_))); (case side2 => exact HC0_3.out); (case side3 => repeat (first | exact (Kd.C_below HR1.out HB.out) | (with_reducible refine Kd.C_alloc ?_ _) | (with_reducible refine Kd.C_drewN ?_ _) | (with_reducible refine Kd.C_drew ?_))); (case side4 => exact HC1.out); rintro e w18 ⟨rfl, hb⟩; refine ⟨_, rfl, ?_⟩; have n0_ := Aside0.mk (blk_below (g := gb189) (o := .cells #[.int .i64 a0_0, .int .i64 a0_1, .int .i64 a0_2, .slice A0_3 l0_3.length c0_3] 27 (0, 0)) (by (with_reducible repeat first | refine blk_drewN ?_ _ | refine blk_drew ?_ | refine blk_alloc ?_ _); exact BK189.out) hb); have n1_ := Aside0.mk (below_step (by repeat (first | (with_reducible first | exact HB.out | apply below_alloc | apply pw_below_drewN | apply below_drew1 | refine below_set ?_ GE189.out) | exact HB.out)) hb); clear BK189; clear HB; have BK189 := n0_; have HB := n1_; clear n0_ n1_; (try clear hb); (try clear hk)))
   go_ret2
   exact ⟨_, by first | rfl | (simp [errW_none, errW_some] <;> rfl) | (simp [*, errW_none, errW_some] <;> rfl), by first | exact Kd.R_nil _ _ _ _ _ | exact Kd.N_nil _ _ _ _ _ | exact Kd.V_nil _ _ _ _ _ | exact Kd.Q_nil _ _ _ _ _ | exact Kd.S_nil _ _ _ _ _, by repeat (first | (with_reducible first | exact HB.out | apply below_alloc | apply pw_below_drewN | apply below_drew1 | refine below_set ?_ GE189.out) | exact HB.out)⟩
end Go.Proofs.Ytbppeffcikphcaa.PResidualTells
