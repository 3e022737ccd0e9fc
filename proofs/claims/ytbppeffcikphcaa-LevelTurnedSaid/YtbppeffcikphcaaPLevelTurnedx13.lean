/- For the law LevelTurned, for every input: printed by a program (wip/myprint), contracts by hand where it says MANUAL. -/
-- slim
import Derived.Test.YtbppeffcikphcaaPLevelTurnedx0
import Derived.Test.YtbppeffcikphcaaPLevelTurnedx11
namespace Go.Proofs.Ytbppeffcikphcaa.PLevelTurned
open Go.RowKit Go.Proofs.YtbppeffcikphcaaW.PrintWords Go.Proofs.YtbppeffcikphcaaW.PrintLast Go.Proofs.YtbppeffcikphcaaW.PrintMore
attribute [local go_sem] max2_int min2_int max_two min_two max_three min_three max_four min_four
set_option linter.unusedVariables false
set_option linter.unusedSimpArgs false
/-! ### racewaylaw7_walked: function 46 -/
mutual
def racewaylaw7_walked.l0 : Nat → List Int → Int → List Bool → Int → List Int → Int → Int → Int → List (S49) → Option (List Int)
 | 0, _, _, _, _, _, _, _, _, _ => none
 | k + 1, x1, x2, x7, x8, x9, x165000, x165001, x165002, x165003 => if x8 = x165002 then (some x9) else (racewaylaw7_walked.l1 k x1 x2 x7 x8 x9 ([] : List Int) 0 x165000 x165001 x165002 x165003)
def racewaylaw7_walked.l1 : Nat → List Int → Int → List Bool → Int → List Int → List Int → Int → Int → Int → Int → List (S49) → Option (List Int)
 | 0, _, _, _, _, _, _, _, _, _, _, _ => none
 | k + 1, x1, x2, x7, x8, x9, x10, x11, x165000, x165001, x165002, x165003 => if x11 < (x165003.length : Int) then (if 0 ≤ x11 then (if ((rd_T49 x165003 x11).f0) = x8 then (if 0 ≤ ((rd_T49 x165003 x11).f1) then (if ((rd_T49 x165003 x11).f1) < (x7.length : Int) then (if (rdOf false x7 ((rd_T49 x165003 x11).f1) = true) then (racewaylaw7_walked.l1 k x1 x2 x7 x8 x9 x10 (wrap64 (x11 + 1)) x165000 x165001 x165002 x165003) else (if x11 < (x1.length : Int) then (if (rd x1 x11) < ((rd_T49 x165003 x11).f2) then (if x10.length < 17592186044416 then (racewaylaw7_walked.l1 k x1 x2 x7 x8 x9 (x10 ++ [x11]) (wrap64 (x11 + 1)) x165000 x165001 x165002 x165003) else (none)) else (racewaylaw7_walked.l1 k x1 x2 x7 x8 x9 x10 (wrap64 (x11 + 1)) x165000 x165001 x165002 x165003)) else (none))) else (none)) else (none)) else (racewaylaw7_walked.l1 k x1 x2 x7 x8 x9 x10 (wrap64 (x11 + 1)) x165000 x165001 x165002 x165003)) else (none)) else (if (x10.length : Int) = 0 then (some ([] : List Int)) else (if (wrap64 ((x9.length : Int) + 1)) = 0 then (none) else ((racewaylaw7_pick.f (wrap64 (Int.tdiv x2 (wrap64 ((x9.length : Int) + 1)))) (x10.length : Int)).bind fun t177 => (if 0 ≤ t177 then (if t177 < (x10.length : Int) then (if x9.length < 17592186044416 then (if 0 ≤ (rd x10 t177) then (if (rd x10 t177) < (x165003.length : Int) then (if 0 ≤ ((rd_T49 x165003 (rd x10 t177)).f1) then (if ((rd_T49 x165003 (rd x10 t177)).f1) < (x7.length : Int) then (racewaylaw7_walked.l0 k x1 x2 (x7.set (((rd_T49 x165003 (rd x10 t177)).f1) : Int).toNat true) ((rd_T49 x165003 (rd x10 t177)).f1) (x9 ++ [rd x10 t177]) x165000 x165001 x165002 x165003) else (none)) else (none)) else (none)) else (none)) else (none)) else (none)) else (none)))))
end
def racewaylaw7_walked.f (k : Nat) (a0_0 : Int) (a0_1 : Int) (a0_2 : Int) (l0_3 : List (S49)) (l1 : List Int) (a2 : Int) : Option (List Int) := if 0 ≤ (wrap64 (a0_0 + 1)) then (if (wrap64 (a0_0 + 1) : Int).toNat ≤ 281474976710656 then ((some (List.replicate (wrap64 (a0_0 + 1) : Int).toNat false : List Bool)).bind fun y165 => (if 0 ≤ a0_1 then (if a0_1 < (y165.length : Int) then (racewaylaw7_walked.l0 k l1 a2 (y165.set (a0_1 : Int).toNat true) a0_1 ([] : List Int) a0_0 a0_1 a0_2 l0_3) else (none)) else (none))) else (none)) else (none)
theorem racewaylaw7_walked.mono_l : ∀ k, (∀ y0 y1 y2 y3 y4 y5 y6 y7 y8, LeO (racewaylaw7_walked.l0 k y0 y1 y2 y3 y4 y5 y6 y7 y8) (racewaylaw7_walked.l0 (k + 1) y0 y1 y2 y3 y4 y5 y6 y7 y8)) ∧ (∀ y0 y1 y2 y3 y4 y5 y6 y7 y8 y9 y10, LeO (racewaylaw7_walked.l1 k y0 y1 y2 y3 y4 y5 y6 y7 y8 y9 y10) (racewaylaw7_walked.l1 (k + 1) y0 y1 y2 y3 y4 y5 y6 y7 y8 y9 y10))
 | 0 => ⟨fun _ _ _ _ _ _ _ _ _ r h => by simp [racewaylaw7_walked.l0] at h, fun _ _ _ _ _ _ _ _ _ _ _ r h => by simp [racewaylaw7_walked.l1] at h⟩
 | k + 1 => by
  obtain ⟨ih0, ih1⟩ := racewaylaw7_walked.mono_l k
  refine ⟨?_, ?_⟩
  ·intro y0 y1 y2 y3 y4 y5 y6 y7 y8
   unfold racewaylaw7_walked.l0
   repeat' first
   | (with_reducible exact ih0 _ _ _ _ _ _ _ _ _)
   | (with_reducible exact ih1 _ _ _ _ _ _ _ _ _ _ _)
   | (with_reducible exact LeO.refl _)
   | (with_reducible exact LeO.none _)
   | (with_reducible refine LeO.ite ?_ ?_)
   | (with_reducible refine LeO.bind ?_ (fun _ => ?_))
   | exact ih0 _ _ _ _ _ _ _ _ _
   | exact ih1 _ _ _ _ _ _ _ _ _ _ _
   | exact LeO.none _
   | refine LeO.ite ?_ ?_
   | refine LeO.bind ?_ (fun _ => ?_)
  ·intro y0 y1 y2 y3 y4 y5 y6 y7 y8 y9 y10
   unfold racewaylaw7_walked.l1
   repeat' first
   | (with_reducible exact ih0 _ _ _ _ _ _ _ _ _)
   | (with_reducible exact ih1 _ _ _ _ _ _ _ _ _ _ _)
   | (with_reducible exact LeO.refl _)
   | (with_reducible exact LeO.none _)
   | (with_reducible refine LeO.ite ?_ ?_)
   | (with_reducible refine LeO.bind ?_ (fun _ => ?_))
   | exact ih0 _ _ _ _ _ _ _ _ _
   | exact ih1 _ _ _ _ _ _ _ _ _ _ _
   | exact LeO.none _
   | refine LeO.ite ?_ ?_
   | refine LeO.bind ?_ (fun _ => ?_)
theorem racewaylaw7_walked.mono : ∀ a0 a1 a2 a3 a4 a5 k, LeO (racewaylaw7_walked.f k a0 a1 a2 a3 a4 a5) (racewaylaw7_walked.f (k + 1) a0 a1 a2 a3 a4 a5) := by
 intro a0 a1 a2 a3 a4 a5 k
 obtain ⟨ih0, ih1⟩ := racewaylaw7_walked.mono_l k
 unfold racewaylaw7_walked.f
 repeat' first
   | (with_reducible exact ih0 _ _ _ _ _ _ _ _ _)
   | (with_reducible exact ih1 _ _ _ _ _ _ _ _ _ _ _)
   | (with_reducible exact LeO.refl _)
   | (with_reducible exact LeO.none _)
   | (with_reducible refine LeO.ite ?_ ?_)
   | (with_reducible refine LeO.bind ?_ (fun _ => ?_))
   | exact ih0 _ _ _ _ _ _ _ _ _
   | exact ih1 _ _ _ _ _ _ _ _ _ _ _
   | exact LeO.none _
   | refine LeO.ite ?_ ?_
   | refine LeO.bind ?_ (fun _ => ?_)
set_option maxHeartbeats 8000000 in
set_option maxRecDepth 100000 in
theorem racewaylaw7_walked.calls (k : Nat) (a0_0 : Int) (a0_1 : Int) (a0_2 : Int) (A0_3 : Option Addr) (c0_3 : Nat) (l0_3 : List (S49)) (A1 : Option Addr) (c1 : Nat) (l1 : List Int) (a2 : Int) (r : List Int) (w : World) (hr0_3 : Kd.C k49 w A0_3 l0_3.length l0_3) (hc0_3 : l0_3.length ≤ c0_3) (hr1 : Kd.C (Kd.int .i64) w A1 l1.length l1) (hc1 : l1.length ≤ c1) (h : racewaylaw7_walked.f k a0_0 a0_1 a0_2 l0_3 l1 a2 = some r) :
  Calls Try.prog 46 #[.agg #[.int .i64 a0_0, .int .i64 a0_1, .int .i64 a0_2, .slice A0_3 l0_3.length c0_3], .slice A1 l1.length c1, .int .i64 a2] w fun e w' => ∃ v0_ : Value, e = .returned (v0_) ∧ Kd.R (Kd.int .i64) 3 w' w.heap.size (fun _ => True) v0_ r ∧ Below w.heap.size w w' := by
 have hu27 := Try.underlying27
 have HR0_3 := Aside0.mk hr0_3
 have HC0_3 := Aside0.mk hc0_3
 clear hr0_3 hc0_3
 have HR1 := Aside0.mk hr1
 have HC1 := Aside0.mk hc1
 clear hr1 hc1
 have HB := Aside0.mk (Below.refl w.heap.size w)
 have H : (if 0 ≤ (wrap64 (a0_0 + 1)) then (if (wrap64 (a0_0 + 1) : Int).toNat ≤ 281474976710656 then ((some (List.replicate (wrap64 (a0_0 + 1) : Int).toNat false : List Bool)).bind fun y165 => (if 0 ≤ a0_1 then (if a0_1 < (y165.length : Int) then (racewaylaw7_walked.l0 k l1 a2 (y165.set (a0_1 : Int).toNat true) a0_1 ([] : List Int) a0_0 a0_1 a0_2 l0_3) else (none)) else (none))) else (none)) else (none)) = some r := h
 clear h
 obtain ⟨ji4, hji4⟩ : ∃ j_ : Int, (wrap64 (a0_0 + 1)) = j_ := ⟨_, rfl⟩
 replace H : (if 0 ≤ (ji4) then (if (ji4 : Int).toNat ≤ 281474976710656 then ((some (List.replicate (ji4 : Int).toNat false : List Bool)).bind fun y165 => (if 0 ≤ a0_1 then (if a0_1 < (y165.length : Int) then (racewaylaw7_walked.l0 k l1 a2 (y165.set (a0_1 : Int).toNat true) a0_1 ([] : List Int) a0_0 a0_1 a0_2 l0_3) else (none)) else (none))) else (none)) else (none)) = some r := by first | (rw [hji4] at H; exact H) | (simp only [hji4] at H ⊢; exact H)
 have hji4w : (IntKind.i64.wrap (a0_0 + 1)) = ji4 := (i64_w _).trans hji4
 by_cases c5 : 0 ≤ (ji4)
 ·rw [if_pos c5] at H
  have c5b0 := eq_true c5
  have c5b1 : decide (0 ≤ (ji4)) = true := decide_eq_true c5
  clear c5
  by_cases c6 : (ji4 : Int).toNat ≤ 281474976710656
  ·rw [if_pos c6] at H
   have c6b0 := eq_true c6
   have c6b1 : decide ((ji4 : Int).toNat ≤ 281474976710656) = true := decide_eq_true c6
   clear c6
   obtain ⟨y165, hy165⟩ : ∃ y_ : List Bool, y_ = (List.replicate (ji4 : Int).toNat false) := ⟨_, rfl⟩
   replace H : (if 0 ≤ a0_1 then (if a0_1 < (y165.length : Int) then (racewaylaw7_walked.l0 k l1 a2 (y165.set (a0_1 : Int).toNat true) a0_1 ([] : List Int) a0_0 a0_1 a0_2 l0_3) else (none)) else (none)) = some r := by first | (rw [hy165]; with_reducible exact H) | (have H2_ := (Option.bind_some _ _).symm.trans H; rw [hy165]; with_reducible exact H2_) | (have H2_ := (Option.bind_some _ _).symm.trans H; with_reducible exact H2_) | with_reducible exact H | (rw [hy165]; exact H) | exact H
   have Ny165 := Aside0.mk hy165
   clear hy165
   by_cases c7 : 0 ≤ a0_1
   ·rw [if_pos c7] at H
    have c7b0 : decide (0 ≤ a0_1) = true := decide_eq_true c7
    clear c7
    by_cases c8 : a0_1 < (y165.length : Int)
    ·rw [if_pos c8] at H
     have c8b0 : decide (a0_1 < (y165.length : Int)) = true := decide_eq_true c8
     clear c8
     obtain ⟨y168, hy168⟩ : ∃ y_ : List Bool, y_ = (y165.set (a0_1 : Int).toNat true) := ⟨_, rfl⟩
     replace H : (racewaylaw7_walked.l0 k l1 a2 y168 a0_1 ([] : List Int) a0_0 a0_1 a0_2 l0_3) = some r := by first | (rw [hy168]; with_reducible exact H) | (have H2_ := (Option.bind_some _ _).symm.trans H; rw [hy168]; with_reducible exact H2_) | (have H2_ := (Option.bind_some _ _).symm.trans H; with_reducible exact H2_) | with_reducible exact H | (rw [hy168]; exact H) | exact H
     have Ny168 := Aside0.mk hy168
     clear hy168
     have H' := Aside0.mk H
     clear H
     go_enter Try.func46, Try.ntmps46
     go_wp2_with (first | ((with_reducible refine gate_dst (N := 3) rfl ?_); refine box_event ?hg (N := 3) ?hd (cs := #[.int .i64 a0_0, .int .i64 a0_1, .int .i64 a0_2, .slice A0_3 l0_3.length c0_3]) (t := 27) ?hr ?_; (case hd => rfl); (case hg => rfl); (case hr => first | (go_simp; done) | (go_simp; rfl)); intro gb164 hg w10 hbox hb; have n0_ := Aside0.mk (below_step (by repeat (first | (with_reducible first | exact HB.out | apply below_alloc | apply pw_below_drewN | apply below_drew1) | exact HB.out)) hb); have n1_ := Aside0.mk (hbox); have n2_ := Aside0.mk ((by rw [hg]; exact (below_size (by repeat (first | (with_reducible first | exact HB.out | apply below_alloc | apply pw_below_drewN | apply below_drew1) | exact HB.out))) : w.heap.size ≤ gb164)); have n3_ := Aside0.mk ((by rw [hg]; exact (below_size (by repeat (first | (with_reducible first | exact HB.out | apply below_alloc | apply pw_below_drewN | apply below_drew1) | exact HB.out))) : w.heap.size ≤ gb164)); clear HB; have HB := n0_; have BK164 := n1_; have GW164 := n2_; have GE164 := n3_; clear n0_ n1_ n2_ n3_; clear hb hbox hg; have hcz11_0 : w10.cell? ⟨gb164, 0, none⟩ = some (.int .i64 a0_0) := (blk_cell BK164.out 0).trans rfl; have hcz11_1 : w10.cell? ⟨gb164, 1, none⟩ = some (.int .i64 a0_1) := (blk_cell BK164.out 1).trans rfl; have hcz11_2 : w10.cell? ⟨gb164, 2, none⟩ = some (.int .i64 a0_2) := (blk_cell BK164.out 2).trans rfl; have hcz11_3 : w10.cell? ⟨gb164, 3, none⟩ = some (.slice A0_3 l0_3.length c0_3) := (blk_cell BK164.out 3).trans rfl; have hfz11_0 := blk_frozen BK164.out 0; have hfz11_1 := blk_frozen BK164.out 1; have hfz11_2 := blk_frozen BK164.out 2; have hfz11_3 := blk_frozen BK164.out 3) | ((with_reducible refine gate_dst (N := 16) rfl ?_); refine Kd.R_make Kd.bool _ 4 rfl (N := 16) rfl 35 _ _ rfl ji4 rfl rfl Try.underlying35 (.bool false) 1 info4 rfl (by decide) (by omega) false (ok := fun _ => True) (okp := fun _ => True) rfl (fun _ hk => hk) trivial (of_decide_eq_true (by first | (with_reducible assumption) | assumption)) (Nat.le_trans (Nat.mul_le_mul_right _ (of_decide_eq_true (by first | (with_reducible assumption) | assumption) : ji4.toNat ≤ 281474976710656)) (by omega)) (Below.refl _ _) (Nat.le_refl _) ?_; intro v166 w12 ho13 hb hg_ hnew_; clear hg_ hnew_; (first | rw [← Ny165.out] at ho13 | (simp only [Int.reduceToNat] at ho13; rw [← Ny165.out] at ho13)); have n0_ := Aside0.mk (Kd.R_lower ho13 (below_size (by repeat (first | (with_reducible first | exact HB.out | apply below_alloc | apply pw_below_drewN | apply below_drew1 | refine below_set ?_ GE164.out) | exact HB.out)))); have n1_ := Aside0.mk (blk_below (g := gb164) (o := .cells #[.int .i64 a0_0, .int .i64 a0_1, .int .i64 a0_2, .slice A0_3 l0_3.length c0_3] 27 (0, 0)) (by (with_reducible repeat first | refine blk_drewN ?_ _ | refine blk_drew ?_ | refine blk_alloc ?_ _); exact BK164.out) hb); have n2_ := Aside0.mk (below_step (by repeat (first | (with_reducible first | exact HB.out | apply below_alloc | apply pw_below_drewN | apply below_drew1 | refine below_set ?_ GE164.out) | exact HB.out)) hb); clear BK164; clear HB; have HO167 := n0_; have BK164 := n1_; have HB := n2_; clear n0_ n1_ n2_; clear hb ho13; have hcz14_0 : w12.cell? ⟨gb164, 0, none⟩ = some (.int .i64 a0_0) := (blk_cell BK164.out 0).trans rfl; have hcz14_1 : w12.cell? ⟨gb164, 1, none⟩ = some (.int .i64 a0_1) := (blk_cell BK164.out 1).trans rfl; have hcz14_2 : w12.cell? ⟨gb164, 2, none⟩ = some (.int .i64 a0_2) := (blk_cell BK164.out 2).trans rfl; have hcz14_3 : w12.cell? ⟨gb164, 3, none⟩ = some (.slice A0_3 l0_3.length c0_3) := (blk_cell BK164.out 3).trans rfl; have hfz14_0 := blk_frozen BK164.out 0; have hfz14_1 := blk_frozen BK164.out 1; have hfz14_2 := blk_frozen BK164.out 2; have hfz14_3 := blk_frozen BK164.out 3; have p9 : 0 ≤ (a0_1 : Int) := of_decide_eq_true (by first | (with_reducible assumption) | assumption); have q9 : (a0_1 : Int) < ((y165.length : Int) : Int) := of_decide_eq_true (by first | (with_reducible assumption) | assumption); obtain ⟨go9, co9, eo9, gb9, gl9, cl9, HG9⟩ := Kd.R_form HO167.out (by omega); (first | cases eo9 | (injection eo9 with ea_ en_ ec_; (first | subst ea_ | (injection ea_ with ea_; subst ea_)); subst ec_; clear en_)); have GB9 := Aside0.mk gb9; have GG9 := Aside0.mk HG9; clear gb9 gl9 HG9; obtain ⟨hx9_0, hf9_0⟩ := Kd.R_celln false HO167.out (a0_1 : Int) p9 q9; replace p9 := eq_true p9; replace q9 := eq_true q9; obtain ⟨hy15_, hz15_⟩ := Kd.R_celln false HO167.out (a0_1 : Int) (of_decide_eq_true (by first | (with_reducible assumption) | assumption)) (of_decide_eq_true (by first | (with_reducible assumption) | assumption)); have HP15 := Kd.R_putg HO167.out (a0_1 : Int) true) | ((with_reducible refine gate_store (t := 4) (p := 21) rfl ?_); (try (rw [drewN_self w12]; generalize hq_ : World.drewN w12 _ = w12; have n0_ := Aside0.mk (Kd.R_at hq_ HO167.out); have n1_ := Aside0.mk (blk_at hq_ BK164.out); have n2_ := Aside0.mk (below_at hq_ HB.out); clear hq_ HO167 BK164 HB; have HO167 := n0_; have BK164 := n1_; have HB := n2_; clear n0_ n1_ n2_; (try (obtain ⟨hy15_, hz15_⟩ := Kd.R_celln false HO167.out (a0_1 : Int) (of_decide_eq_true (by first | (with_reducible assumption) | assumption)) (of_decide_eq_true (by first | (with_reducible assumption) | assumption)))); (try (have HP15 := Kd.R_putg HO167.out (a0_1 : Int) true)))); refine store_event (t := 4) (p := 21) (v := ?vo_w16) (w1 := (w12.setCell ⟨go9, (a0_1 : Int).toNat, none⟩ (.bool true))) ?hg ?ho ?hn ?hr ?_; (case ho => rfl); (case hg => rfl); (case hn => rfl); (case hr => first | (go_simp; done) | (go_simp; rfl)); intro w16 hw; have hg : w12.grownBy w16 (some go9) := (by rw [hw]; exact HP15.2); have hp_ : Kd.R Kd.bool 4 w16 w.heap.size (fun _ => True) (.slice (some ⟨go9, 0, none⟩) y165.length co9) y168 := (by rw [hw, Ny168.out]; exact HP15.1); clear HP15; have n0_ := Aside0.mk (blk_grown (g := gb164) (o := .cells #[.int .i64 a0_0, .int .i64 a0_1, .int .i64 a0_2, .slice A0_3 l0_3.length c0_3] 27 (0, 0)) (by (with_reducible repeat first | refine blk_drewN ?_ _ | refine blk_drew ?_ | refine blk_alloc ?_ _); exact BK164.out) hg (Kd.R_ne HO167.out BK164.out (by decide))); have n1_ := Aside0.mk (hp_); have n2_ := Aside0.mk ((by rw [hw]; exact below_set (HB.out) GB9.out : Below w.heap.size w w16)); clear BK164; clear HO167; clear HB; have BK164 := n0_; have HO167 := n1_; have HB := n2_; clear n0_ n1_ n2_; clear hg hw hp_))
     repeat (go_quiet (first | ((with_reducible refine gate_dst (N := 3) rfl ?_); refine box_event ?hg (N := 3) ?hd (cs := #[.int .i64 a0_0, .int .i64 a0_1, .int .i64 a0_2, .slice A0_3 l0_3.length c0_3]) (t := 27) ?hr ?_; (case hd => rfl); (case hg => rfl); (case hr => first | (go_simp; done) | (go_simp; rfl)); intro gb164 hg w10 hbox hb; have n0_ := Aside0.mk (below_step (by repeat (first | (with_reducible first | exact HB.out | apply below_alloc | apply pw_below_drewN | apply below_drew1) | exact HB.out)) hb); have n1_ := Aside0.mk (hbox); have n2_ := Aside0.mk ((by rw [hg]; exact (below_size (by repeat (first | (with_reducible first | exact HB.out | apply below_alloc | apply pw_below_drewN | apply below_drew1) | exact HB.out))) : w.heap.size ≤ gb164)); have n3_ := Aside0.mk ((by rw [hg]; exact (below_size (by repeat (first | (with_reducible first | exact HB.out | apply below_alloc | apply pw_below_drewN | apply below_drew1) | exact HB.out))) : w.heap.size ≤ gb164)); clear HB; have HB := n0_; have BK164 := n1_; have GW164 := n2_; have GE164 := n3_; clear n0_ n1_ n2_ n3_; clear hb hbox hg; have hcz11_0 : w10.cell? ⟨gb164, 0, none⟩ = some (.int .i64 a0_0) := (blk_cell BK164.out 0).trans rfl; have hcz11_1 : w10.cell? ⟨gb164, 1, none⟩ = some (.int .i64 a0_1) := (blk_cell BK164.out 1).trans rfl; have hcz11_2 : w10.cell? ⟨gb164, 2, none⟩ = some (.int .i64 a0_2) := (blk_cell BK164.out 2).trans rfl; have hcz11_3 : w10.cell? ⟨gb164, 3, none⟩ = some (.slice A0_3 l0_3.length c0_3) := (blk_cell BK164.out 3).trans rfl; have hfz11_0 := blk_frozen BK164.out 0; have hfz11_1 := blk_frozen BK164.out 1; have hfz11_2 := blk_frozen BK164.out 2; have hfz11_3 := blk_frozen BK164.out 3) | ((with_reducible refine gate_dst (N := 16) rfl ?_); refine Kd.R_make Kd.bool _ 4 rfl (N := 16) rfl 35 _ _ rfl ji4 rfl rfl Try.underlying35 (.bool false) 1 info4 rfl (by decide) (by omega) false (ok := fun _ => True) (okp := fun _ => True) rfl (fun _ hk => hk) trivial (of_decide_eq_true (by first | (with_reducible assumption) | assumption)) (Nat.le_trans (Nat.mul_le_mul_right _ (of_decide_eq_true (by first | (with_reducible assumption) | assumption) : ji4.toNat ≤ 281474976710656)) (by omega)) (Below.refl _ _) (Nat.le_refl _) ?_; intro v166 w12 ho13 hb hg_ hnew_; clear hg_ hnew_; (first | rw [← Ny165.out] at ho13 | (simp only [Int.reduceToNat] at ho13; rw [← Ny165.out] at ho13)); have n0_ := Aside0.mk (Kd.R_lower ho13 (below_size (by repeat (first | (with_reducible first | exact HB.out | apply below_alloc | apply pw_below_drewN | apply below_drew1 | refine below_set ?_ GE164.out) | exact HB.out)))); have n1_ := Aside0.mk (blk_below (g := gb164) (o := .cells #[.int .i64 a0_0, .int .i64 a0_1, .int .i64 a0_2, .slice A0_3 l0_3.length c0_3] 27 (0, 0)) (by (with_reducible repeat first | refine blk_drewN ?_ _ | refine blk_drew ?_ | refine blk_alloc ?_ _); exact BK164.out) hb); have n2_ := Aside0.mk (below_step (by repeat (first | (with_reducible first | exact HB.out | apply below_alloc | apply pw_below_drewN | apply below_drew1 | refine below_set ?_ GE164.out) | exact HB.out)) hb); clear BK164; clear HB; have HO167 := n0_; have BK164 := n1_; have HB := n2_; clear n0_ n1_ n2_; clear hb ho13; have hcz14_0 : w12.cell? ⟨gb164, 0, none⟩ = some (.int .i64 a0_0) := (blk_cell BK164.out 0).trans rfl; have hcz14_1 : w12.cell? ⟨gb164, 1, none⟩ = some (.int .i64 a0_1) := (blk_cell BK164.out 1).trans rfl; have hcz14_2 : w12.cell? ⟨gb164, 2, none⟩ = some (.int .i64 a0_2) := (blk_cell BK164.out 2).trans rfl; have hcz14_3 : w12.cell? ⟨gb164, 3, none⟩ = some (.slice A0_3 l0_3.length c0_3) := (blk_cell BK164.out 3).trans rfl; have hfz14_0 := blk_frozen BK164.out 0; have hfz14_1 := blk_frozen BK164.out 1; have hfz14_2 := blk_frozen BK164.out 2; have hfz14_3 := blk_frozen BK164.out 3; have p9 : 0 ≤ (a0_1 : Int) := of_decide_eq_true (by first | (with_reducible assumption) | assumption); have q9 : (a0_1 : Int) < ((y165.length : Int) : Int) := of_decide_eq_true (by first | (with_reducible assumption) | assumption); obtain ⟨go9, co9, eo9, gb9, gl9, cl9, HG9⟩ := Kd.R_form HO167.out (by omega); (first | cases eo9 | (injection eo9 with ea_ en_ ec_; (first | subst ea_ | (injection ea_ with ea_; subst ea_)); subst ec_; clear en_)); have GB9 := Aside0.mk gb9; have GG9 := Aside0.mk HG9; clear gb9 gl9 HG9; obtain ⟨hx9_0, hf9_0⟩ := Kd.R_celln false HO167.out (a0_1 : Int) p9 q9; replace p9 := eq_true p9; replace q9 := eq_true q9; obtain ⟨hy15_, hz15_⟩ := Kd.R_celln false HO167.out (a0_1 : Int) (of_decide_eq_true (by first | (with_reducible assumption) | assumption)) (of_decide_eq_true (by first | (with_reducible assumption) | assumption)); have HP15 := Kd.R_putg HO167.out (a0_1 : Int) true) | ((with_reducible refine gate_store (t := 4) (p := 21) rfl ?_); (try (rw [drewN_self w12]; generalize hq_ : World.drewN w12 _ = w12; have n0_ := Aside0.mk (Kd.R_at hq_ HO167.out); have n1_ := Aside0.mk (blk_at hq_ BK164.out); have n2_ := Aside0.mk (below_at hq_ HB.out); clear hq_ HO167 BK164 HB; have HO167 := n0_; have BK164 := n1_; have HB := n2_; clear n0_ n1_ n2_; (try (obtain ⟨hy15_, hz15_⟩ := Kd.R_celln false HO167.out (a0_1 : Int) (of_decide_eq_true (by first | (with_reducible assumption) | assumption)) (of_decide_eq_true (by first | (with_reducible assumption) | assumption)))); (try (have HP15 := Kd.R_putg HO167.out (a0_1 : Int) true)))); refine store_event (t := 4) (p := 21) (v := ?vo_w16) (w1 := (w12.setCell ⟨go9, (a0_1 : Int).toNat, none⟩ (.bool true))) ?hg ?ho ?hn ?hr ?_; (case ho => rfl); (case hg => rfl); (case hn => rfl); (case hr => first | (go_simp; done) | (go_simp; rfl)); intro w16 hw; have hg : w12.grownBy w16 (some go9) := (by rw [hw]; exact HP15.2); have hp_ : Kd.R Kd.bool 4 w16 w.heap.size (fun _ => True) (.slice (some ⟨go9, 0, none⟩) y165.length co9) y168 := (by rw [hw, Ny168.out]; exact HP15.1); clear HP15; have n0_ := Aside0.mk (blk_grown (g := gb164) (o := .cells #[.int .i64 a0_0, .int .i64 a0_1, .int .i64 a0_2, .slice A0_3 l0_3.length c0_3] 27 (0, 0)) (by (with_reducible repeat first | refine blk_drewN ?_ _ | refine blk_drew ?_ | refine blk_alloc ?_ _); exact BK164.out) hg (Kd.R_ne HO167.out BK164.out (by decide))); have n1_ := Aside0.mk (hp_); have n2_ := Aside0.mk ((by rw [hw]; exact below_set (HB.out) GB9.out : Below w.heap.size w w16)); clear BK164; clear HO167; clear HB; have BK164 := n0_; have HO167 := n1_; have HB := n2_; clear n0_ n1_ n2_; clear hg hw hp_)); try go_wp2_with (first | ((with_reducible refine gate_dst (N := 3) rfl ?_); refine box_event ?hg (N := 3) ?hd (cs := #[.int .i64 a0_0, .int .i64 a0_1, .int .i64 a0_2, .slice A0_3 l0_3.length c0_3]) (t := 27) ?hr ?_; (case hd => rfl); (case hg => rfl); (case hr => first | (go_simp; done) | (go_simp; rfl)); intro gb164 hg w10 hbox hb; have n0_ := Aside0.mk (below_step (by repeat (first | (with_reducible first | exact HB.out | apply below_alloc | apply pw_below_drewN | apply below_drew1) | exact HB.out)) hb); have n1_ := Aside0.mk (hbox); have n2_ := Aside0.mk ((by rw [hg]; exact (below_size (by repeat (first | (with_reducible first | exact HB.out | apply below_alloc | apply pw_below_drewN | apply below_drew1) | exact HB.out))) : w.heap.size ≤ gb164)); have n3_ := Aside0.mk ((by rw [hg]; exact (below_size (by repeat (first | (with_reducible first | exact HB.out | apply below_alloc | apply pw_below_drewN | apply below_drew1) | exact HB.out))) : w.heap.size ≤ gb164)); clear HB; have HB := n0_; have BK164 := n1_; have GW164 := n2_; have GE164 := n3_; clear n0_ n1_ n2_ n3_; clear hb hbox hg; have hcz11_0 : w10.cell? ⟨gb164, 0, none⟩ = some (.int .i64 a0_0) := (blk_cell BK164.out 0).trans rfl; have hcz11_1 : w10.cell? ⟨gb164, 1, none⟩ = some (.int .i64 a0_1) := (blk_cell BK164.out 1).trans rfl; have hcz11_2 : w10.cell? ⟨gb164, 2, none⟩ = some (.int .i64 a0_2) := (blk_cell BK164.out 2).trans rfl; have hcz11_3 : w10.cell? ⟨gb164, 3, none⟩ = some (.slice A0_3 l0_3.length c0_3) := (blk_cell BK164.out 3).trans rfl; have hfz11_0 := blk_frozen BK164.out 0; have hfz11_1 := blk_frozen BK164.out 1; have hfz11_2 := blk_frozen BK164.out 2; have hfz11_3 := blk_frozen BK164.out 3) | ((with_reducible refine gate_dst (N := 16) rfl ?_); refine Kd.R_make Kd.bool _ 4 rfl (N := 16) rfl 35 _ _ rfl ji4 rfl rfl Try.underlying35 (.bool false) 1 info4 rfl (by decide) (by omega) false (ok := fun _ => True) (okp := fun _ => True) rfl (fun _ hk => hk) trivial (of_decide_eq_true (by first | (with_reducible assumption) | assumption)) (Nat.le_trans (Nat.mul_le_mul_right _ (of_decide_eq_true (by first | (with_reducible assumption) | assumption) : ji4.toNat ≤ 281474976710656)) (by omega)) (Below.refl _ _) (Nat.le_refl _) ?_; intro v166 w12 ho13 hb hg_ hnew_; clear hg_ hnew_; (first | rw [← Ny165.out] at ho13 | (simp only [Int.reduceToNat] at ho13; rw [← Ny165.out] at ho13)); have n0_ := Aside0.mk (Kd.R_lower ho13 (below_size (by repeat (first | (with_reducible first | exact HB.out | apply below_alloc | apply pw_below_drewN | apply below_drew1 | refine below_set ?_ GE164.out) | exact HB.out)))); have n1_ := Aside0.mk (blk_below (g := gb164) (o := .cells #[.int .i64 a0_0, .int .i64 a0_1, .int .i64 a0_2, .slice A0_3 l0_3.length c0_3] 27 (0, 0)) (by (with_reducible repeat first | refine blk_drewN ?_ _ | refine blk_drew ?_ | refine blk_alloc ?_ _); exact BK164.out) hb); have n2_ := Aside0.mk (below_step (by repeat (first | (with_reducible first | exact HB.out | apply below_alloc | apply pw_below_drewN | apply below_drew1 | refine below_set ?_ GE164.out) | exact HB.out)) hb); clear BK164; clear HB; have HO167 := n0_; have BK164 := n1_; have HB := n2_; clear n0_ n1_ n2_; clear hb ho13; have hcz14_0 : w12.cell? ⟨gb164, 0, none⟩ = some (.int .i64 a0_0) := (blk_cell BK164.out 0).trans rfl; have hcz14_1 : w12.cell? ⟨gb164, 1, none⟩ = some (.int .i64 a0_1) := (blk_cell BK164.out 1).trans rfl; have hcz14_2 : w12.cell? ⟨gb164, 2, none⟩ = some (.int .i64 a0_2) := (blk_cell BK164.out 2).trans rfl; have hcz14_3 : w12.cell? ⟨gb164, 3, none⟩ = some (.slice A0_3 l0_3.length c0_3) := (blk_cell BK164.out 3).trans rfl; have hfz14_0 := blk_frozen BK164.out 0; have hfz14_1 := blk_frozen BK164.out 1; have hfz14_2 := blk_frozen BK164.out 2; have hfz14_3 := blk_frozen BK164.out 3; have p9 : 0 ≤ (a0_1 : Int) := of_decide_eq_true (by first | (with_reducible assumption) | assumption); have q9 : (a0_1 : Int) < ((y165.length : Int) : Int) := of_decide_eq_true (by first | (with_reducible assumption) | assumption); obtain ⟨go9, co9, eo9, gb9, gl9, cl9, HG9⟩ := Kd.R_form HO167.out (by omega); (first | cases eo9 | (injection eo9 with ea_ en_ ec_; (first | subst ea_ | (injection ea_ with ea_; subst ea_)); subst ec_; clear en_)); have GB9 := Aside0.mk gb9; have GG9 := Aside0.mk HG9; clear gb9 gl9 HG9; obtain ⟨hx9_0, hf9_0⟩ := Kd.R_celln false HO167.out (a0_1 : Int) p9 q9; replace p9 := eq_true p9; replace q9 := eq_true q9; obtain ⟨hy15_, hz15_⟩ := Kd.R_celln false HO167.out (a0_1 : Int) (of_decide_eq_true (by first | (with_reducible assumption) | assumption)) (of_decide_eq_true (by first | (with_reducible assumption) | assumption)); have HP15 := Kd.R_putg HO167.out (a0_1 : Int) true) | ((with_reducible refine gate_store (t := 4) (p := 21) rfl ?_); (try (rw [drewN_self w12]; generalize hq_ : World.drewN w12 _ = w12; have n0_ := Aside0.mk (Kd.R_at hq_ HO167.out); have n1_ := Aside0.mk (blk_at hq_ BK164.out); have n2_ := Aside0.mk (below_at hq_ HB.out); clear hq_ HO167 BK164 HB; have HO167 := n0_; have BK164 := n1_; have HB := n2_; clear n0_ n1_ n2_; (try (obtain ⟨hy15_, hz15_⟩ := Kd.R_celln false HO167.out (a0_1 : Int) (of_decide_eq_true (by first | (with_reducible assumption) | assumption)) (of_decide_eq_true (by first | (with_reducible assumption) | assumption)))); (try (have HP15 := Kd.R_putg HO167.out (a0_1 : Int) true)))); refine store_event (t := 4) (p := 21) (v := ?vo_w16) (w1 := (w12.setCell ⟨go9, (a0_1 : Int).toNat, none⟩ (.bool true))) ?hg ?ho ?hn ?hr ?_; (case ho => rfl); (case hg => rfl); (case hn => rfl); (case hr => first | (go_simp; done) | (go_simp; rfl)); intro w16 hw; have hg : w12.grownBy w16 (some go9) := (by rw [hw]; exact HP15.2); have hp_ : Kd.R Kd.bool 4 w16 w.heap.size (fun _ => True) (.slice (some ⟨go9, 0, none⟩) y165.length co9) y168 := (by rw [hw, Ny168.out]; exact HP15.1); clear HP15; have n0_ := Aside0.mk (blk_grown (g := gb164) (o := .cells #[.int .i64 a0_0, .int .i64 a0_1, .int .i64 a0_2, .slice A0_3 l0_3.length c0_3] 27 (0, 0)) (by (with_reducible repeat first | refine blk_drewN ?_ _ | refine blk_drew ?_ | refine blk_alloc ?_ _); exact BK164.out) hg (Kd.R_ne HO167.out BK164.out (by decide))); have n1_ := Aside0.mk (hp_); have n2_ := Aside0.mk ((by rw [hw]; exact below_set (HB.out) GB9.out : Below w.heap.size w w16)); clear BK164; clear HO167; clear HB; have BK164 := n0_; have HO167 := n1_; have HB := n2_; clear n0_ n1_ n2_; clear hg hw hp_)))
     go_loopg [8, 9] k (fun kq v8 v9 w' => ∃ (x7_1 : List Bool) (x8_1 : Int) (x9_1 : List Int), v8 = .int .i64 x8_1 ∧ Aside0 (racewaylaw7_walked.l0 kq l1 a2 x7_1 x8_1 x9_1 a0_0 a0_1 a0_2 l0_3 = some r) ∧ Aside0 (kq ≤ k) ∧ Aside0 (Kd.R Kd.bool 4 w' w.heap.size (fun _ => True) (.slice (some ⟨go9, 0, none⟩) y165.length co9) x7_1) ∧ Aside0 (Kd.R (Kd.int .i64) 3 w' w.heap.size (fun _ => True) v9 x9_1) ∧ Aside0 (w'.heap[gb164]? = some (.cells #[.int .i64 a0_0, .int .i64 a0_1, .int .i64 a0_2, (.slice A0_3 l0_3.length c0_3)] 27 (0, 0))) ∧ Aside0 (Below w.heap.size w w'))
     case atStart => exact ⟨(y168), (a0_1), (([] : List Int)), (by first | rfl | (simp; done) | (simp [*]; done)), H', ⟨Nat.le_refl _⟩, ⟨by (with_reducible repeat first | apply Kd.R_alloc | apply Kd.R_drewN | apply Kd.R_drew); exact HO167.out⟩, ⟨by first | exact Kd.R_nil _ _ _ _ _ | exact Kd.N_nil _ _ _ _ _ | exact Kd.V_nil _ _ _ _ _ | exact Kd.Q_nil _ _ _ _ _ | exact Kd.S_nil _ _ _ _ _⟩, ⟨by (with_reducible repeat first | refine blk_drewN ?_ _ | refine blk_drew ?_ | refine blk_alloc ?_ _); exact BK164.out⟩, ⟨by repeat (first | (with_reducible first | exact HB.out | apply below_alloc | apply pw_below_drewN | apply below_drew1 | refine below_set ?_ GE164.out) | exact HB.out)⟩⟩
     case round =>
      clear H'
      try clear c1
      try clear p2
      try clear c4
      try clear c5
      try clear c5b0
      try clear c5b1
      try clear c6
      try clear c6b0
      try clear c6b1
      try clear p6
      try clear c7
      try clear c7b0
      try clear c8
      try clear c8b0
      try clear p9
      try clear q9
      try clear hx9
      try clear hf9
      try clear hcz11_0
      try clear hcz11_1
      try clear hcz11_2
      try clear hcz11_3
      try clear hcz14_0
      try clear hcz14_1
      try clear hcz14_2
      try clear hcz14_3
      try clear hfz11_0
      try clear hfz11_1
      try clear hfz11_2
      try clear hfz11_3
      try clear hfz14_0
      try clear hfz14_1
      try clear hfz14_2
      try clear hfz14_3
      try clear hx9_0
      try clear p9
      try clear q9
      obtain ⟨x7_1, x8_1, x9_1, rfl, HA, HK1, HO_7, HO_9, BK164, HB⟩ := hrel
      have hl7_1 := (Kd.R_reads' HO_7.out).1
      rw [hl7_1] at HO_7
      (try simp only [hl7_1])
      (try simp only [hl7_1] at BK164)
      (try simp only [hl7_1] at HO_9)
      cases gk with
      | zero => exact absurd HA.out (by simp [racewaylaw7_walked.l0])
      | succ k1 =>
       have H := HA.out
       clear HA
       simp only [racewaylaw7_walked.l0] at H
       by_cases c17 : x8_1 = a0_2
       ·rw [if_pos c17] at H
        have c17b0 : (x8_1 == a0_2) = true := beq_iff_eq.mpr c17
        have c17b1 : (x8_1 != a0_2) = false := bne_eq_false_iff_eq.mpr c17
        clear c17
        obtain rfl := Option.some.inj H
        have hcz18_0 : wr.cell? ⟨gb164, 0, none⟩ = some (.int .i64 a0_0) := (blk_cell BK164.out 0).trans rfl
        have hcz18_1 : wr.cell? ⟨gb164, 1, none⟩ = some (.int .i64 a0_1) := (blk_cell BK164.out 1).trans rfl
        have hcz18_2 : wr.cell? ⟨gb164, 2, none⟩ = some (.int .i64 a0_2) := (blk_cell BK164.out 2).trans rfl
        have hcz18_3 : wr.cell? ⟨gb164, 3, none⟩ = some (.slice A0_3 l0_3.length c0_3) := (blk_cell BK164.out 3).trans rfl
        have hfz18_0 := blk_frozen BK164.out 0
        have hfz18_1 := blk_frozen BK164.out 1
        have hfz18_2 := blk_frozen BK164.out 2
        have hfz18_3 := blk_frozen BK164.out 3
        go_wp2
        repeat (go_quiet (fail); try go_wp2)
        go_ret
        exact ⟨_, by first | rfl | (simp [errW_none, errW_some] <;> rfl) | (simp only [← hji4]; first | rfl | (simp [errW_none, errW_some] <;> rfl)) | (simp [*, errW_none, errW_some] <;> rfl), by (with_reducible repeat first | apply Kd.R_alloc | apply Kd.R_drewN | apply Kd.R_drew); exact HO_9.out, by repeat (first | (with_reducible first | exact HB.out | apply below_alloc | apply pw_below_drewN | apply below_drew1 | refine below_set ?_ GE164.out) | exact HB.out)⟩
       ·rw [if_neg c17] at H
        have c17b0 : (x8_1 == a0_2) = false := beq_eq_false_iff_ne.mpr c17
        have c17b1 : (x8_1 != a0_2) = true := bne_iff_ne.mpr c17
        have H' := Aside0.mk H
        clear H
        have hcz19_0 : wr.cell? ⟨gb164, 0, none⟩ = some (.int .i64 a0_0) := (blk_cell BK164.out 0).trans rfl
        have hcz19_1 : wr.cell? ⟨gb164, 1, none⟩ = some (.int .i64 a0_1) := (blk_cell BK164.out 1).trans rfl
        have hcz19_2 : wr.cell? ⟨gb164, 2, none⟩ = some (.int .i64 a0_2) := (blk_cell BK164.out 2).trans rfl
        have hcz19_3 : wr.cell? ⟨gb164, 3, none⟩ = some (.slice A0_3 l0_3.length c0_3) := (blk_cell BK164.out 3).trans rfl
        have hfz19_0 := blk_frozen BK164.out 0
        have hfz19_1 := blk_frozen BK164.out 1
        have hfz19_2 := blk_frozen BK164.out 2
        have hfz19_3 := blk_frozen BK164.out 3
        go_wp2
        repeat (go_quiet (fail); try go_wp2)
        go_loopg [10, 11] k1 (fun kq v10 v11 w' => ∃ (x10_2 : List Int) (x11_2 : Int), v11 = .int .i64 x11_2 ∧ Aside0 (racewaylaw7_walked.l1 kq l1 a2 x7_1 x8_1 x9_1 x10_2 x11_2 a0_0 a0_1 a0_2 l0_3 = some r) ∧ Aside0 (kq ≤ k1) ∧ Aside0 (Kd.R Kd.bool 4 w' w.heap.size (fun _ => True) (.slice (some ⟨go9, 0, none⟩) x7_1.length co9) x7_1) ∧ Aside0 (Kd.R (Kd.int .i64) 3 w' w.heap.size (fun k_ => some k_ ≠ (v10 : Value).ownBlock) u9 x9_1) ∧ Aside0 (Kd.R (Kd.int .i64) 3 w' w.heap.size (fun k_ => some k_ ≠ (u9 : Value).ownBlock) v10 x10_2) ∧ Aside0 (w'.heap[gb164]? = some (.cells #[.int .i64 a0_0, .int .i64 a0_1, .int .i64 a0_2, (.slice A0_3 l0_3.length c0_3)] 27 (0, 0))) ∧ Aside0 (Below w.heap.size w w'))
        case atStart => exact ⟨(([] : List Int)), (0), (by first | rfl | (simp; done) | (simp [*]; done)), H', ⟨Nat.le_refl _⟩, ⟨by (try simp only [hl7_1]); (with_reducible repeat first | apply Kd.R_alloc | apply Kd.R_drewN | apply Kd.R_drew); exact HO_7.out⟩, ⟨by (try simp only [hl7_1]); (with_reducible repeat first | apply Kd.R_alloc | apply Kd.R_drewN | apply Kd.R_drew); exact Kd.R_mono HO_9.out (fun _ hk => (by simp [Value.ownBlock]))⟩, ⟨by (try simp only [hl7_1]); first | exact Kd.R_nil _ _ _ _ _ | exact Kd.N_nil _ _ _ _ _ | exact Kd.V_nil _ _ _ _ _ | exact Kd.Q_nil _ _ _ _ _ | exact Kd.S_nil _ _ _ _ _⟩, ⟨by (try simp only [hl7_1]); (with_reducible repeat first | refine blk_drewN ?_ _ | refine blk_drew ?_ | refine blk_alloc ?_ _); exact BK164.out⟩, ⟨by repeat (first | (with_reducible first | exact HB.out | apply below_alloc | apply pw_below_drewN | apply below_drew1 | refine below_set ?_ GE164.out) | exact HB.out)⟩⟩
        case round =>
         clear H'
         try clear c1
         try clear p2
         try clear c4
         try clear c5
         try clear c5b0
         try clear c5b1
         try clear c6
         try clear c6b0
         try clear c6b1
         try clear p6
         try clear c7
         try clear c7b0
         try clear c8
         try clear c8b0
         try clear p9
         try clear q9
         try clear hx9
         try clear hf9
         try clear c17
         try clear c17b0
         try clear c17b1
         try clear hcz11_0
         try clear hcz11_1
         try clear hcz11_2
         try clear hcz11_3
         try clear hcz14_0
         try clear hcz14_1
         try clear hcz14_2
         try clear hcz14_3
         try clear hcz18_0
         try clear hcz18_1
         try clear hcz18_2
         try clear hcz18_3
         try clear hcz19_0
         try clear hcz19_1
         try clear hcz19_2
         try clear hcz19_3
         try clear hfz11_0
         try clear hfz11_1
         try clear hfz11_2
         try clear hfz11_3
         try clear hfz14_0
         try clear hfz14_1
         try clear hfz14_2
         try clear hfz14_3
         try clear hfz18_0
         try clear hfz18_1
         try clear hfz18_2
         try clear hfz18_3
         try clear hfz19_0
         try clear hfz19_1
         try clear hfz19_2
         try clear hfz19_3
         try clear hx9_0
         try clear p2
         try clear p6
         try clear p9
         try clear q9
         obtain ⟨x10_2, x11_2, rfl, HA, HK2, HO_7, HO_9, HO_10, BK164, HB⟩ := hrel
         cases gk with
         | zero => exact absurd HA.out (by simp [racewaylaw7_walked.l1])
         | succ k2 =>
          have H := HA.out
          clear HA
          simp only [racewaylaw7_walked.l1] at H
          by_cases c20 : x11_2 < (l0_3.length : Int)
          ·rw [if_pos c20] at H
           have c20b0 : decide (x11_2 < (l0_3.length : Int)) = true := decide_eq_true c20
           clear c20
           by_cases c21 : 0 ≤ x11_2
           ·rw [if_pos c21] at H
            have c21b0 : decide (0 ≤ x11_2) = true := decide_eq_true c21
            clear c21
            by_cases c22 : ((rd_T49 l0_3 x11_2).f0) = x8_1
            ·rw [if_pos c22] at H
             have c22b0 : (((rd_T49 l0_3 x11_2).f0) == x8_1) = true := beq_iff_eq.mpr c22
             have c22b1 : (((rd_T49 l0_3 x11_2).f0) != x8_1) = false := bne_eq_false_iff_eq.mpr c22
             clear c22
             by_cases c23 : 0 ≤ ((rd_T49 l0_3 x11_2).f1)
             ·rw [if_pos c23] at H
              have c23b0 : decide (0 ≤ ((rd_T49 l0_3 x11_2).f1)) = true := decide_eq_true c23
              clear c23
              by_cases c24 : ((rd_T49 l0_3 x11_2).f1) < (x7_1.length : Int)
              ·rw [if_pos c24] at H
               have c24b0 : decide (((rd_T49 l0_3 x11_2).f1) < (x7_1.length : Int)) = true := decide_eq_true c24
               clear c24
               obtain ⟨bq25, hbq25⟩ : ∃ b_ : Bool, b_ = (rdOf false x7_1 ((rd_T49 l0_3 x11_2).f1)) := ⟨_, rfl⟩
               replace H : (if (bq25 = true) then (racewaylaw7_walked.l1 k2 l1 a2 x7_1 x8_1 x9_1 x10_2 (wrap64 (x11_2 + 1)) a0_0 a0_1 a0_2 l0_3) else (if x11_2 < (l1.length : Int) then (if (rd l1 x11_2) < ((rd_T49 l0_3 x11_2).f2) then (if x10_2.length < 17592186044416 then (racewaylaw7_walked.l1 k2 l1 a2 x7_1 x8_1 x9_1 (x10_2 ++ [x11_2]) (wrap64 (x11_2 + 1)) a0_0 a0_1 a0_2 l0_3) else (none)) else (racewaylaw7_walked.l1 k2 l1 a2 x7_1 x8_1 x9_1 x10_2 (wrap64 (x11_2 + 1)) a0_0 a0_1 a0_2 l0_3)) else (none))) = some r := by rw [← hbq25] at H; exact H
               have Nbq25 := Aside0.mk hbq25
               clear hbq25
               by_cases c26 : (bq25 = true)
               ·subst c26
                have H1 : (racewaylaw7_walked.l1 k2 l1 a2 x7_1 x8_1 x9_1 x10_2 (wrap64 (x11_2 + 1)) a0_0 a0_1 a0_2 l0_3) = some r := by rw [if_pos rfl] at H; exact H
                clear H
                have H := H1
                clear H1
                have H' := Aside0.mk H
                clear H
                have hcz27_0 : wr.cell? ⟨gb164, 0, none⟩ = some (.int .i64 a0_0) := (blk_cell BK164.out 0).trans rfl
                have hcz27_1 : wr.cell? ⟨gb164, 1, none⟩ = some (.int .i64 a0_1) := (blk_cell BK164.out 1).trans rfl
                have hcz27_2 : wr.cell? ⟨gb164, 2, none⟩ = some (.int .i64 a0_2) := (blk_cell BK164.out 2).trans rfl
                have hcz27_3 : wr.cell? ⟨gb164, 3, none⟩ = some (.slice A0_3 l0_3.length c0_3) := (blk_cell BK164.out 3).trans rfl
                have hfz27_0 := blk_frozen BK164.out 0
                have hfz27_1 := blk_frozen BK164.out 1
                have hfz27_2 := blk_frozen BK164.out 2
                have hfz27_3 := blk_frozen BK164.out 3
                have p169 : 0 ≤ (x11_2 : Int) := of_decide_eq_true (by first | (with_reducible assumption) | assumption)
                have q169 : x11_2 < (l0_3.length : Int) := of_decide_eq_true (by first | (with_reducible assumption) | assumption)
                obtain ⟨ad169, e169, hx169_0, hx169_1, hx169_2⟩ := at_T49 HR0_3.out x11_2 p169 q169
                cases e169
                replace hx169_0 := (HB.out.cell (World.block_lt_of_cell? w _ hx169_0)).trans hx169_0
                replace hx169_1 := (HB.out.cell (World.block_lt_of_cell? w _ hx169_1)).trans hx169_1
                replace hx169_2 := (HB.out.cell (World.block_lt_of_cell? w _ hx169_2)).trans hx169_2
                replace p169 := eq_true p169
                replace q169 := eq_true q169
                have p170 : 0 ≤ (x11_2 : Int) := of_decide_eq_true (by first | (with_reducible assumption) | assumption)
                have q170 : x11_2 < (l0_3.length : Int) := of_decide_eq_true (by first | (with_reducible assumption) | assumption)
                obtain ⟨ad170, e170, hx170_0, hx170_1, hx170_2⟩ := at_T49 HR0_3.out x11_2 p170 q170
                obtain rfl : ad169 = ad170 := (by injection e170)
                replace hx170_0 := (HB.out.cell (World.block_lt_of_cell? w _ hx170_0)).trans hx170_0
                replace hx170_1 := (HB.out.cell (World.block_lt_of_cell? w _ hx170_1)).trans hx170_1
                replace hx170_2 := (HB.out.cell (World.block_lt_of_cell? w _ hx170_2)).trans hx170_2
                replace p170 := eq_true p170
                replace q170 := eq_true q170
                have p171 : 0 ≤ (((rd_T49 l0_3 x11_2).f1) : Int) := of_decide_eq_true (by first | (with_reducible assumption) | assumption)
                have q171 : ((rd_T49 l0_3 x11_2).f1) < (x7_1.length : Int) := of_decide_eq_true (by first | (with_reducible assumption) | assumption)
                obtain ⟨ad171, e171, hx171_0⟩ := Kd.at_bool (Kd.R_reads' HO_7.out).2.2 ((rd_T49 l0_3 x11_2).f1) p171 q171
                (try rw [← Nbq25.out] at hx171_0)
                obtain rfl : (⟨go9, 0, none⟩ : Addr) = ad171 := (by injection e171)
                (first | simp only [add_plain] at hx171_0 | simp only [add_at] at hx171_0 | simp only [Addr.add, Nat.zero_add] at hx171_0 | skip)
                replace p171 := eq_true p171
                replace q171 := eq_true q171
                go_wp2
                repeat (go_quiet (fail); try go_wp2)
                go_roundg k2
                case measure => have := HK1.out; have := HK2.out; omega
                case rel => exact ⟨(x10_2), (wrap64 (x11_2 + 1)), (by first | rfl | (simp; done) | (simp [*]; done)), H', ⟨by have := HK1.out; have := HK2.out; omega⟩, ⟨by (try simp only [hl7_1]); (with_reducible repeat first | apply Kd.R_alloc | apply Kd.R_drewN | apply Kd.R_drew); exact HO_7.out⟩, ⟨by (try simp only [hl7_1]); (with_reducible repeat first | apply Kd.R_alloc | apply Kd.R_drewN | apply Kd.R_drew); exact HO_9.out⟩, ⟨by (try simp only [hl7_1]); (with_reducible repeat first | apply Kd.R_alloc | apply Kd.R_drewN | apply Kd.R_drew); exact HO_10.out⟩, ⟨by (try simp only [hl7_1]); (with_reducible repeat first | refine blk_drewN ?_ _ | refine blk_drew ?_ | refine blk_alloc ?_ _); exact BK164.out⟩, ⟨by repeat (first | (with_reducible first | exact HB.out | apply below_alloc | apply pw_below_drewN | apply below_drew1 | refine below_set ?_ GE164.out) | exact HB.out)⟩⟩
               ·replace c26 := Bool.eq_false_iff.mpr c26
                subst c26
                have H1 : (if x11_2 < (l1.length : Int) then (if (rd l1 x11_2) < ((rd_T49 l0_3 x11_2).f2) then (if x10_2.length < 17592186044416 then (racewaylaw7_walked.l1 k2 l1 a2 x7_1 x8_1 x9_1 (x10_2 ++ [x11_2]) (wrap64 (x11_2 + 1)) a0_0 a0_1 a0_2 l0_3) else (none)) else (racewaylaw7_walked.l1 k2 l1 a2 x7_1 x8_1 x9_1 x10_2 (wrap64 (x11_2 + 1)) a0_0 a0_1 a0_2 l0_3)) else (none)) = some r := by rw [if_neg (show ¬ (false = true) by decide)] at H; exact H
                clear H
                have H := H1
                clear H1
                by_cases c28 : x11_2 < (l1.length : Int)
                ·rw [if_pos c28] at H
                 have c28b0 : decide (x11_2 < (l1.length : Int)) = true := decide_eq_true c28
                 clear c28
                 by_cases c29 : (rd l1 x11_2) < ((rd_T49 l0_3 x11_2).f2)
                 ·rw [if_pos c29] at H
                  have c29b0 : decide ((rd l1 x11_2) < ((rd_T49 l0_3 x11_2).f2)) = true := decide_eq_true c29
                  clear c29
                  by_cases c30 : x10_2.length < 17592186044416
                  ·rw [if_pos c30] at H
                   have LMc30 := Aside0.mk c30
                   clear c30
                   obtain ⟨y174, hy174⟩ : ∃ y_ : List Int, y_ = (x10_2 ++ [x11_2]) := ⟨_, rfl⟩
                   replace H : (racewaylaw7_walked.l1 k2 l1 a2 x7_1 x8_1 x9_1 y174 (wrap64 (x11_2 + 1)) a0_0 a0_1 a0_2 l0_3) = some r := by first | (rw [hy174]; with_reducible exact H) | (have H2_ := (Option.bind_some _ _).symm.trans H; rw [hy174]; with_reducible exact H2_) | (have H2_ := (Option.bind_some _ _).symm.trans H; with_reducible exact H2_) | with_reducible exact H | (rw [hy174]; exact H) | exact H
                   have Ny174 := Aside0.mk hy174
                   clear hy174
                   have H' := Aside0.mk H
                   clear H
                   have hcz31_0 : wr.cell? ⟨gb164, 0, none⟩ = some (.int .i64 a0_0) := (blk_cell BK164.out 0).trans rfl
                   have hcz31_1 : wr.cell? ⟨gb164, 1, none⟩ = some (.int .i64 a0_1) := (blk_cell BK164.out 1).trans rfl
                   have hcz31_2 : wr.cell? ⟨gb164, 2, none⟩ = some (.int .i64 a0_2) := (blk_cell BK164.out 2).trans rfl
                   have hcz31_3 : wr.cell? ⟨gb164, 3, none⟩ = some (.slice A0_3 l0_3.length c0_3) := (blk_cell BK164.out 3).trans rfl
                   have hfz31_0 := blk_frozen BK164.out 0
                   have hfz31_1 := blk_frozen BK164.out 1
                   have hfz31_2 := blk_frozen BK164.out 2
                   have hfz31_3 := blk_frozen BK164.out 3
                   have p169 : 0 ≤ (x11_2 : Int) := of_decide_eq_true (by first | (with_reducible assumption) | assumption)
                   have q169 : x11_2 < (l0_3.length : Int) := of_decide_eq_true (by first | (with_reducible assumption) | assumption)
                   obtain ⟨ad169, e169, hx169_0, hx169_1, hx169_2⟩ := at_T49 HR0_3.out x11_2 p169 q169
                   cases e169
                   replace hx169_0 := (HB.out.cell (World.block_lt_of_cell? w _ hx169_0)).trans hx169_0
                   replace hx169_1 := (HB.out.cell (World.block_lt_of_cell? w _ hx169_1)).trans hx169_1
                   replace hx169_2 := (HB.out.cell (World.block_lt_of_cell? w _ hx169_2)).trans hx169_2
                   replace p169 := eq_true p169
                   replace q169 := eq_true q169
                   have p170 : 0 ≤ (x11_2 : Int) := of_decide_eq_true (by first | (with_reducible assumption) | assumption)
                   have q170 : x11_2 < (l0_3.length : Int) := of_decide_eq_true (by first | (with_reducible assumption) | assumption)
                   obtain ⟨ad170, e170, hx170_0, hx170_1, hx170_2⟩ := at_T49 HR0_3.out x11_2 p170 q170
                   obtain rfl : ad169 = ad170 := (by injection e170)
                   replace hx170_0 := (HB.out.cell (World.block_lt_of_cell? w _ hx170_0)).trans hx170_0
                   replace hx170_1 := (HB.out.cell (World.block_lt_of_cell? w _ hx170_1)).trans hx170_1
                   replace hx170_2 := (HB.out.cell (World.block_lt_of_cell? w _ hx170_2)).trans hx170_2
                   replace p170 := eq_true p170
                   replace q170 := eq_true q170
                   have p171 : 0 ≤ (((rd_T49 l0_3 x11_2).f1) : Int) := of_decide_eq_true (by first | (with_reducible assumption) | assumption)
                   have q171 : ((rd_T49 l0_3 x11_2).f1) < (x7_1.length : Int) := of_decide_eq_true (by first | (with_reducible assumption) | assumption)
                   obtain ⟨ad171, e171, hx171_0⟩ := Kd.at_bool (Kd.R_reads' HO_7.out).2.2 ((rd_T49 l0_3 x11_2).f1) p171 q171
                   (try rw [← Nbq25.out] at hx171_0)
                   obtain rfl : (⟨go9, 0, none⟩ : Addr) = ad171 := (by injection e171)
                   (first | simp only [add_plain] at hx171_0 | simp only [add_at] at hx171_0 | simp only [Addr.add, Nat.zero_add] at hx171_0 | skip)
                   replace p171 := eq_true p171
                   replace q171 := eq_true q171
                   have p172 : 0 ≤ (x11_2 : Int) := of_decide_eq_true (by first | (with_reducible assumption) | assumption)
                   have q172 : x11_2 < (l1.length : Int) := of_decide_eq_true (by first | (with_reducible assumption) | assumption)
                   obtain ⟨ad172, e172, hx172_0⟩ := Kd.at_int HR1.out x11_2 p172 q172
                   cases e172
                   replace hx172_0 := (HB.out.cell (World.block_lt_of_cell? w _ hx172_0)).trans hx172_0
                   replace p172 := eq_true p172
                   replace q172 := eq_true q172
                   have p173 : 0 ≤ (x11_2 : Int) := of_decide_eq_true (by first | (with_reducible assumption) | assumption)
                   have q173 : x11_2 < (l0_3.length : Int) := of_decide_eq_true (by first | (with_reducible assumption) | assumption)
                   obtain ⟨ad173, e173, hx173_0, hx173_1, hx173_2⟩ := at_T49 HR0_3.out x11_2 p173 q173
                   obtain rfl : ad169 = ad173 := (by injection e173)
                   replace hx173_0 := (HB.out.cell (World.block_lt_of_cell? w _ hx173_0)).trans hx173_0
                   replace hx173_1 := (HB.out.cell (World.block_lt_of_cell? w _ hx173_1)).trans hx173_1
                   replace hx173_2 := (HB.out.cell (World.block_lt_of_cell? w _ hx173_2)).trans hx173_2
                   replace p173 := eq_true p173
                   replace q173 := eq_true q173
                   go_wp2_with (first | ((with_reducible refine gate_builtin (b := .append) (xs := #[.tmp 66, .tmp 68]) rfl ?_); at_builtin; refine Kd.R_append (Kd.int .i64) (w0 := w) w.heap.size rfl (.tmp 66) (.tmp 68) 23 3 (.int .i64 0) 8 rfl Try.underlying23 info3 rfl (by decide) (by omega) u10 x10_2 x11_2 [.int .i64 x11_2] (fun k_ => some k_ ≠ (u9 : Value).ownBlock) (fun _ => False) rfl rfl ?aP (fun _ hk => hk.elim) ?aF ?aO ?aB ?aS ?aL ?_; (case aP => exact rfl); (case aB => exact (by repeat (first | (with_reducible first | exact HB.out | apply below_alloc | apply pw_below_drewN | apply below_drew1 | refine below_set ?_ GE164.out) | exact HB.out))); (case aF => exact (fun k_ hk => Kd.fresh' (Kd.R_lt (by (with_reducible repeat first | apply Kd.R_alloc | apply Kd.R_drewN | apply Kd.R_drew); exact HO_9.out)) k_ hk)); (case aO => exact (by (with_reducible repeat first | apply Kd.R_alloc | apply Kd.R_drewN | apply Kd.R_drew); exact HO_10.out)); (case aS => exact (below_size (by repeat (first | (with_reducible first | exact HB.out | apply below_alloc | apply pw_below_drewN | apply below_drew1 | refine below_set ?_ GE164.out) | exact HB.out)))); (case aL => have := LMc30.out; omega); intro v175 w32 ho hb hg hat; rw [← Ny174.out] at ho; have n0_ := Aside0.mk (Kd.R_over' (by (with_reducible repeat first | apply Kd.R_alloc | apply Kd.R_drewN | apply Kd.R_drew); exact HO_7.out) (Kd.R_typed (by (with_reducible repeat first | apply Kd.R_alloc | apply Kd.R_drewN | apply Kd.R_drew); exact HO_10.out)) (by decide) hg); have n1_ := Aside0.mk (Kd.R_after (ok := (fun _ => True)) (by (with_reducible repeat first | apply Kd.R_alloc | apply Kd.R_drewN | apply Kd.R_drew); exact Kd.R_mono HO_9.out (fun _ hk => ⟨trivial, hk⟩)) hg hat); have n2_ := Aside0.mk (blk_grown (g := gb164) (o := .cells #[.int .i64 a0_0, .int .i64 a0_1, .int .i64 a0_2, .slice (some ad169) l0_3.length c0_3] 27 (0, 0)) (by (with_reducible repeat first | refine blk_drewN ?_ _ | refine blk_drew ?_ | refine blk_alloc ?_ _); exact BK164.out) hg (Kd.R_ne HO_10.out BK164.out (by decide))); have n3_ := Aside0.mk (hb); have n4_ := Aside0.mk (ho); clear HO_7; clear HO_9; clear BK164; clear HB; clear HO_10; have HO_7 := n0_; have HO_9 := n1_; have BK164 := n2_; have HB := n3_; have HO176 := n4_; clear n0_ n1_ n2_ n3_ n4_; clear ho hb hg hat))
                   repeat (go_quiet (first | ((with_reducible refine gate_builtin (b := .append) (xs := #[.tmp 66, .tmp 68]) rfl ?_); at_builtin; refine Kd.R_append (Kd.int .i64) (w0 := w) w.heap.size rfl (.tmp 66) (.tmp 68) 23 3 (.int .i64 0) 8 rfl Try.underlying23 info3 rfl (by decide) (by omega) u10 x10_2 x11_2 [.int .i64 x11_2] (fun k_ => some k_ ≠ (u9 : Value).ownBlock) (fun _ => False) rfl rfl ?aP (fun _ hk => hk.elim) ?aF ?aO ?aB ?aS ?aL ?_; (case aP => exact rfl); (case aB => exact (by repeat (first | (with_reducible first | exact HB.out | apply below_alloc | apply pw_below_drewN | apply below_drew1 | refine below_set ?_ GE164.out) | exact HB.out))); (case aF => exact (fun k_ hk => Kd.fresh' (Kd.R_lt (by (with_reducible repeat first | apply Kd.R_alloc | apply Kd.R_drewN | apply Kd.R_drew); exact HO_9.out)) k_ hk)); (case aO => exact (by (with_reducible repeat first | apply Kd.R_alloc | apply Kd.R_drewN | apply Kd.R_drew); exact HO_10.out)); (case aS => exact (below_size (by repeat (first | (with_reducible first | exact HB.out | apply below_alloc | apply pw_below_drewN | apply below_drew1 | refine below_set ?_ GE164.out) | exact HB.out)))); (case aL => have := LMc30.out; omega); intro v175 w32 ho hb hg hat; rw [← Ny174.out] at ho; have n0_ := Aside0.mk (Kd.R_over' (by (with_reducible repeat first | apply Kd.R_alloc | apply Kd.R_drewN | apply Kd.R_drew); exact HO_7.out) (Kd.R_typed (by (with_reducible repeat first | apply Kd.R_alloc | apply Kd.R_drewN | apply Kd.R_drew); exact HO_10.out)) (by decide) hg); have n1_ := Aside0.mk (Kd.R_after (ok := (fun _ => True)) (by (with_reducible repeat first | apply Kd.R_alloc | apply Kd.R_drewN | apply Kd.R_drew); exact Kd.R_mono HO_9.out (fun _ hk => ⟨trivial, hk⟩)) hg hat); have n2_ := Aside0.mk (blk_grown (g := gb164) (o := .cells #[.int .i64 a0_0, .int .i64 a0_1, .int .i64 a0_2, .slice (some ad169) l0_3.length c0_3] 27 (0, 0)) (by (with_reducible repeat first | refine blk_drewN ?_ _ | refine blk_drew ?_ | refine blk_alloc ?_ _); exact BK164.out) hg (Kd.R_ne HO_10.out BK164.out (by decide))); have n3_ := Aside0.mk (hb); have n4_ := Aside0.mk (ho); clear HO_7; clear HO_9; clear BK164; clear HB; clear HO_10; have HO_7 := n0_; have HO_9 := n1_; have BK164 := n2_; have HB := n3_; have HO176 := n4_; clear n0_ n1_ n2_ n3_ n4_; clear ho hb hg hat)); try go_wp2_with (first | ((with_reducible refine gate_builtin (b := .append) (xs := #[.tmp 66, .tmp 68]) rfl ?_); at_builtin; refine Kd.R_append (Kd.int .i64) (w0 := w) w.heap.size rfl (.tmp 66) (.tmp 68) 23 3 (.int .i64 0) 8 rfl Try.underlying23 info3 rfl (by decide) (by omega) u10 x10_2 x11_2 [.int .i64 x11_2] (fun k_ => some k_ ≠ (u9 : Value).ownBlock) (fun _ => False) rfl rfl ?aP (fun _ hk => hk.elim) ?aF ?aO ?aB ?aS ?aL ?_; (case aP => exact rfl); (case aB => exact (by repeat (first | (with_reducible first | exact HB.out | apply below_alloc | apply pw_below_drewN | apply below_drew1 | refine below_set ?_ GE164.out) | exact HB.out))); (case aF => exact (fun k_ hk => Kd.fresh' (Kd.R_lt (by (with_reducible repeat first | apply Kd.R_alloc | apply Kd.R_drewN | apply Kd.R_drew); exact HO_9.out)) k_ hk)); (case aO => exact (by (with_reducible repeat first | apply Kd.R_alloc | apply Kd.R_drewN | apply Kd.R_drew); exact HO_10.out)); (case aS => exact (below_size (by repeat (first | (with_reducible first | exact HB.out | apply below_alloc | apply pw_below_drewN | apply below_drew1 | refine below_set ?_ GE164.out) | exact HB.out)))); (case aL => have := LMc30.out; omega); intro v175 w32 ho hb hg hat; rw [← Ny174.out] at ho; have n0_ := Aside0.mk (Kd.R_over' (by (with_reducible repeat first | apply Kd.R_alloc | apply Kd.R_drewN | apply Kd.R_drew); exact HO_7.out) (Kd.R_typed (by (with_reducible repeat first | apply Kd.R_alloc | apply Kd.R_drewN | apply Kd.R_drew); exact HO_10.out)) (by decide) hg); have n1_ := Aside0.mk (Kd.R_after (ok := (fun _ => True)) (by (with_reducible repeat first | apply Kd.R_alloc | apply Kd.R_drewN | apply Kd.R_drew); exact Kd.R_mono HO_9.out (fun _ hk => ⟨trivial, hk⟩)) hg hat); have n2_ := Aside0.mk (blk_grown (g := gb164) (o := .cells #[.int .i64 a0_0, .int .i64 a0_1, .int .i64 a0_2, .slice (some ad169) l0_3.length c0_3] 27 (0, 0)) (by (with_reducible repeat first | refine blk_drewN ?_ _ | refine blk_drew ?_ | refine blk_alloc ?_ _); exact BK164.out) hg (Kd.R_ne HO_10.out BK164.out (by decide))); have n3_ := Aside0.mk (hb); have n4_ := Aside0.mk (ho); clear HO_7; clear HO_9; clear BK164; clear HB; clear HO_10; have HO_7 := n0_; have HO_9 := n1_; have BK164 := n2_; have HB := n3_; have HO176 := n4_; clear n0_ n1_ n2_ n3_ n4_; clear ho hb hg hat)))
                   go_roundg k2
                   case measure => have := HK1.out; have := HK2.out; omega
                   case rel => exact ⟨(y174), (wrap64 (x11_2 + 1)), (by first | rfl | (simp; done) | (simp [*]; done)), H', ⟨by have := HK1.out; have := HK2.out; omega⟩, ⟨by (try simp only [hl7_1]); (with_reducible repeat first | apply Kd.R_alloc | apply Kd.R_drewN | apply Kd.R_drew); exact HO_7.out⟩, ⟨by (try simp only [hl7_1]); (with_reducible repeat first | apply Kd.R_alloc | apply Kd.R_drewN | apply Kd.R_drew); exact Kd.R_mono HO_9.out (fun _ hk => hk.2)⟩, ⟨by (try simp only [hl7_1]); (with_reducible repeat first | apply Kd.R_alloc | apply Kd.R_drewN | apply Kd.R_drew); exact HO176.out⟩, ⟨by (try simp only [hl7_1]); (with_reducible repeat first | refine blk_drewN ?_ _ | refine blk_drew ?_ | refine blk_alloc ?_ _); exact BK164.out⟩, ⟨by repeat (first | (with_reducible first | exact HB.out | apply below_alloc | apply pw_below_drewN | apply below_drew1 | refine below_set ?_ GE164.out) | exact HB.out)⟩⟩
                  ·rw [if_neg c30] at H
                   exact absurd H (by simp)
                 ·rw [if_neg c29] at H
                  have c29b0 : decide ((rd l1 x11_2) < ((rd_T49 l0_3 x11_2).f2)) = false := decide_eq_false c29
                  clear c29
                  have H' := Aside0.mk H
                  clear H
                  have hcz33_0 : wr.cell? ⟨gb164, 0, none⟩ = some (.int .i64 a0_0) := (blk_cell BK164.out 0).trans rfl
                  have hcz33_1 : wr.cell? ⟨gb164, 1, none⟩ = some (.int .i64 a0_1) := (blk_cell BK164.out 1).trans rfl
                  have hcz33_2 : wr.cell? ⟨gb164, 2, none⟩ = some (.int .i64 a0_2) := (blk_cell BK164.out 2).trans rfl
                  have hcz33_3 : wr.cell? ⟨gb164, 3, none⟩ = some (.slice A0_3 l0_3.length c0_3) := (blk_cell BK164.out 3).trans rfl
                  have hfz33_0 := blk_frozen BK164.out 0
                  have hfz33_1 := blk_frozen BK164.out 1
                  have hfz33_2 := blk_frozen BK164.out 2
                  have hfz33_3 := blk_frozen BK164.out 3
                  have p169 : 0 ≤ (x11_2 : Int) := of_decide_eq_true (by first | (with_reducible assumption) | assumption)
                  have q169 : x11_2 < (l0_3.length : Int) := of_decide_eq_true (by first | (with_reducible assumption) | assumption)
                  obtain ⟨ad169, e169, hx169_0, hx169_1, hx169_2⟩ := at_T49 HR0_3.out x11_2 p169 q169
                  cases e169
                  replace hx169_0 := (HB.out.cell (World.block_lt_of_cell? w _ hx169_0)).trans hx169_0
                  replace hx169_1 := (HB.out.cell (World.block_lt_of_cell? w _ hx169_1)).trans hx169_1
                  replace hx169_2 := (HB.out.cell (World.block_lt_of_cell? w _ hx169_2)).trans hx169_2
                  replace p169 := eq_true p169
                  replace q169 := eq_true q169
                  have p170 : 0 ≤ (x11_2 : Int) := of_decide_eq_true (by first | (with_reducible assumption) | assumption)
                  have q170 : x11_2 < (l0_3.length : Int) := of_decide_eq_true (by first | (with_reducible assumption) | assumption)
                  obtain ⟨ad170, e170, hx170_0, hx170_1, hx170_2⟩ := at_T49 HR0_3.out x11_2 p170 q170
                  obtain rfl : ad169 = ad170 := (by injection e170)
                  replace hx170_0 := (HB.out.cell (World.block_lt_of_cell? w _ hx170_0)).trans hx170_0
                  replace hx170_1 := (HB.out.cell (World.block_lt_of_cell? w _ hx170_1)).trans hx170_1
                  replace hx170_2 := (HB.out.cell (World.block_lt_of_cell? w _ hx170_2)).trans hx170_2
                  replace p170 := eq_true p170
                  replace q170 := eq_true q170
                  have p171 : 0 ≤ (((rd_T49 l0_3 x11_2).f1) : Int) := of_decide_eq_true (by first | (with_reducible assumption) | assumption)
                  have q171 : ((rd_T49 l0_3 x11_2).f1) < (x7_1.length : Int) := of_decide_eq_true (by first | (with_reducible assumption) | assumption)
                  obtain ⟨ad171, e171, hx171_0⟩ := Kd.at_bool (Kd.R_reads' HO_7.out).2.2 ((rd_T49 l0_3 x11_2).f1) p171 q171
                  (try rw [← Nbq25.out] at hx171_0)
                  obtain rfl : (⟨go9, 0, none⟩ : Addr) = ad171 := (by injection e171)
                  (first | simp only [add_plain] at hx171_0 | simp only [add_at] at hx171_0 | simp only [Addr.add, Nat.zero_add] at hx171_0 | skip)
                  replace p171 := eq_true p171
                  replace q171 := eq_true q171
                  have p172 : 0 ≤ (x11_2 : Int) := of_decide_eq_true (by first | (with_reducible assumption) | assumption)
                  have q172 : x11_2 < (l1.length : Int) := of_decide_eq_true (by first | (with_reducible assumption) | assumption)
                  obtain ⟨ad172, e172, hx172_0⟩ := Kd.at_int HR1.out x11_2 p172 q172
                  cases e172
                  replace hx172_0 := (HB.out.cell (World.block_lt_of_cell? w _ hx172_0)).trans hx172_0
                  replace p172 := eq_true p172
                  replace q172 := eq_true q172
                  have p173 : 0 ≤ (x11_2 : Int) := of_decide_eq_true (by first | (with_reducible assumption) | assumption)
                  have q173 : x11_2 < (l0_3.length : Int) := of_decide_eq_true (by first | (with_reducible assumption) | assumption)
                  obtain ⟨ad173, e173, hx173_0, hx173_1, hx173_2⟩ := at_T49 HR0_3.out x11_2 p173 q173
                  obtain rfl : ad169 = ad173 := (by injection e173)
                  replace hx173_0 := (HB.out.cell (World.block_lt_of_cell? w _ hx173_0)).trans hx173_0
                  replace hx173_1 := (HB.out.cell (World.block_lt_of_cell? w _ hx173_1)).trans hx173_1
                  replace hx173_2 := (HB.out.cell (World.block_lt_of_cell? w _ hx173_2)).trans hx173_2
                  replace p173 := eq_true p173
                  replace q173 := eq_true q173
                  go_wp2
                  repeat (go_quiet (fail); try go_wp2)
                  go_roundg k2
                  case measure => have := HK1.out; have := HK2.out; omega
                  case rel => exact ⟨(x10_2), (wrap64 (x11_2 + 1)), (by first | rfl | (simp; done) | (simp [*]; done)), H', ⟨by have := HK1.out; have := HK2.out; omega⟩, ⟨by (try simp only [hl7_1]); (with_reducible repeat first | apply Kd.R_alloc | apply Kd.R_drewN | apply Kd.R_drew); exact HO_7.out⟩, ⟨by (try simp only [hl7_1]); (with_reducible repeat first | apply Kd.R_alloc | apply Kd.R_drewN | apply Kd.R_drew); exact HO_9.out⟩, ⟨by (try simp only [hl7_1]); (with_reducible repeat first | apply Kd.R_alloc | apply Kd.R_drewN | apply Kd.R_drew); exact HO_10.out⟩, ⟨by (try simp only [hl7_1]); (with_reducible repeat first | refine blk_drewN ?_ _ | refine blk_drew ?_ | refine blk_alloc ?_ _); exact BK164.out⟩, ⟨by repeat (first | (with_reducible first | exact HB.out | apply below_alloc | apply pw_below_drewN | apply below_drew1 | refine below_set ?_ GE164.out) | exact HB.out)⟩⟩
                ·rw [if_neg c28] at H
                 exact absurd H (by simp)
              ·rw [if_neg c24] at H
               exact absurd H (by simp)
             ·rw [if_neg c23] at H
              exact absurd H (by simp)
            ·rw [if_neg c22] at H
             have c22b0 : (((rd_T49 l0_3 x11_2).f0) == x8_1) = false := beq_eq_false_iff_ne.mpr c22
             have c22b1 : (((rd_T49 l0_3 x11_2).f0) != x8_1) = true := bne_iff_ne.mpr c22
             have H' := Aside0.mk H
             clear H
             have hcz34_0 : wr.cell? ⟨gb164, 0, none⟩ = some (.int .i64 a0_0) := (blk_cell BK164.out 0).trans rfl
             have hcz34_1 : wr.cell? ⟨gb164, 1, none⟩ = some (.int .i64 a0_1) := (blk_cell BK164.out 1).trans rfl
             have hcz34_2 : wr.cell? ⟨gb164, 2, none⟩ = some (.int .i64 a0_2) := (blk_cell BK164.out 2).trans rfl
             have hcz34_3 : wr.cell? ⟨gb164, 3, none⟩ = some (.slice A0_3 l0_3.length c0_3) := (blk_cell BK164.out 3).trans rfl
             have hfz34_0 := blk_frozen BK164.out 0
             have hfz34_1 := blk_frozen BK164.out 1
             have hfz34_2 := blk_frozen BK164.out 2
             have hfz34_3 := blk_frozen BK164.out 3
             have p169 : 0 ≤ (x11_2 : Int) := of_decide_eq_true (by first | (with_reducible assumption) | assumption)
             have q169 : x11_2 < (l0_3.length : Int) := of_decide_eq_true (by first | (with_reducible assumption) | assumption)
             obtain ⟨ad169, e169, hx169_0, hx169_1, hx169_2⟩ := at_T49 HR0_3.out x11_2 p169 q169
             cases e169
             replace hx169_0 := (HB.out.cell (World.block_lt_of_cell? w _ hx169_0)).trans hx169_0
             replace hx169_1 := (HB.out.cell (World.block_lt_of_cell? w _ hx169_1)).trans hx169_1
             replace hx169_2 := (HB.out.cell (World.block_lt_of_cell? w _ hx169_2)).trans hx169_2
             replace p169 := eq_true p169
             replace q169 := eq_true q169
             go_wp2
             repeat (go_quiet (fail); try go_wp2)
             go_roundg k2
             case measure => have := HK1.out; have := HK2.out; omega
             case rel => exact ⟨(x10_2), (wrap64 (x11_2 + 1)), (by first | rfl | (simp; done) | (simp [*]; done)), H', ⟨by have := HK1.out; have := HK2.out; omega⟩, ⟨by (try simp only [hl7_1]); (with_reducible repeat first | apply Kd.R_alloc | apply Kd.R_drewN | apply Kd.R_drew); exact HO_7.out⟩, ⟨by (try simp only [hl7_1]); (with_reducible repeat first | apply Kd.R_alloc | apply Kd.R_drewN | apply Kd.R_drew); exact HO_9.out⟩, ⟨by (try simp only [hl7_1]); (with_reducible repeat first | apply Kd.R_alloc | apply Kd.R_drewN | apply Kd.R_drew); exact HO_10.out⟩, ⟨by (try simp only [hl7_1]); (with_reducible repeat first | refine blk_drewN ?_ _ | refine blk_drew ?_ | refine blk_alloc ?_ _); exact BK164.out⟩, ⟨by repeat (first | (with_reducible first | exact HB.out | apply below_alloc | apply pw_below_drewN | apply below_drew1 | refine below_set ?_ GE164.out) | exact HB.out)⟩⟩
           ·rw [if_neg c21] at H
            exact absurd H (by simp)
          ·rw [if_neg c20] at H
           have c20b0 : decide (x11_2 < (l0_3.length : Int)) = false := decide_eq_false c20
           clear c20
           by_cases c35 : (x10_2.length : Int) = 0
           ·rw [if_pos c35] at H
            have c35b0 : ((x10_2.length : Int) == 0) = true := beq_iff_eq.mpr c35
            have c35b1 : ((x10_2.length : Int) != 0) = false := bne_eq_false_iff_eq.mpr c35
            clear c35
            obtain rfl := Option.some.inj H
            have hcz36_0 : wr.cell? ⟨gb164, 0, none⟩ = some (.int .i64 a0_0) := (blk_cell BK164.out 0).trans rfl
            have hcz36_1 : wr.cell? ⟨gb164, 1, none⟩ = some (.int .i64 a0_1) := (blk_cell BK164.out 1).trans rfl
            have hcz36_2 : wr.cell? ⟨gb164, 2, none⟩ = some (.int .i64 a0_2) := (blk_cell BK164.out 2).trans rfl
            have hcz36_3 : wr.cell? ⟨gb164, 3, none⟩ = some (.slice A0_3 l0_3.length c0_3) := (blk_cell BK164.out 3).trans rfl
            have hfz36_0 := blk_frozen BK164.out 0
            have hfz36_1 := blk_frozen BK164.out 1
            have hfz36_2 := blk_frozen BK164.out 2
            have hfz36_3 := blk_frozen BK164.out 3
            obtain ⟨Ao37, co37, eo37⟩ := Kd.R_slice HO_10.out
            subst eo37
            go_wp2
            repeat (go_quiet (fail); try go_wp2)
            go_ret
            exact ⟨_, by first | rfl | (simp [errW_none, errW_some] <;> rfl) | (simp only [← hji4]; first | rfl | (simp [errW_none, errW_some] <;> rfl)) | (simp [*, errW_none, errW_some] <;> rfl), by first | exact Kd.R_nil _ _ _ _ _ | exact Kd.N_nil _ _ _ _ _ | exact Kd.V_nil _ _ _ _ _ | exact Kd.Q_nil _ _ _ _ _ | exact Kd.S_nil _ _ _ _ _, by repeat (first | (with_reducible first | exact HB.out | apply below_alloc | apply pw_below_drewN | apply below_drew1 | refine below_set ?_ GE164.out) | exact HB.out)⟩
           ·rw [if_neg c35] at H
            have c35b0 : ((x10_2.length : Int) == 0) = false := beq_eq_false_iff_ne.mpr c35
            have c35b1 : ((x10_2.length : Int) != 0) = true := bne_iff_ne.mpr c35
            have c35b2 : ¬ (x10_2 = []) := fun h_ => c35 (by rw [h_]; rfl)
            by_cases c38 : (wrap64 ((x9_1.length : Int) + 1)) = 0
            ·rw [if_pos c38] at H
             exact absurd H (by simp)
            ·rw [if_neg c38] at H
             have c38b0 : ((wrap64 ((x9_1.length : Int) + 1)) == 0) = false := beq_eq_false_iff_ne.mpr c38
             have c38b1 : ((wrap64 ((x9_1.length : Int) + 1)) != 0) = true := bne_iff_ne.mpr c38
             replace H := Option.bind_eq_some_iff.mp H
             obtain ⟨t177, A390, H⟩ := H
             replace H : (if 0 ≤ t177 then (if t177 < (x10_2.length : Int) then (if x9_1.length < 17592186044416 then (if 0 ≤ (rd x10_2 t177) then (if (rd x10_2 t177) < (l0_3.length : Int) then (if 0 ≤ ((rd_T49 l0_3 (rd x10_2 t177)).f1) then (if ((rd_T49 l0_3 (rd x10_2 t177)).f1) < (x7_1.length : Int) then (racewaylaw7_walked.l0 k2 l1 a2 (x7_1.set (((rd_T49 l0_3 (rd x10_2 t177)).f1) : Int).toNat true) ((rd_T49 l0_3 (rd x10_2 t177)).f1) (x9_1 ++ [rd x10_2 t177]) a0_0 a0_1 a0_2 l0_3) else (none)) else (none)) else (none)) else (none)) else (none)) else (none)) else (none)) = some r := H
             have A39 := Aside0.mk A390
             clear A390
             by_cases c40 : 0 ≤ t177
             ·rw [if_pos c40] at H
              have c40b0 : decide (0 ≤ t177) = true := decide_eq_true c40
              clear c40
              by_cases c41 : t177 < (x10_2.length : Int)
              ·rw [if_pos c41] at H
               have c41b0 : decide (t177 < (x10_2.length : Int)) = true := decide_eq_true c41
               clear c41
               by_cases c42 : x9_1.length < 17592186044416
               ·rw [if_pos c42] at H
                have LMc42 := Aside0.mk c42
                clear c42
                obtain ⟨y179, hy179⟩ : ∃ y_ : List Int, y_ = (x9_1 ++ [rd x10_2 t177]) := ⟨_, rfl⟩
                replace H : (if 0 ≤ (rd x10_2 t177) then (if (rd x10_2 t177) < (l0_3.length : Int) then (if 0 ≤ ((rd_T49 l0_3 (rd x10_2 t177)).f1) then (if ((rd_T49 l0_3 (rd x10_2 t177)).f1) < (x7_1.length : Int) then (racewaylaw7_walked.l0 k2 l1 a2 (x7_1.set (((rd_T49 l0_3 (rd x10_2 t177)).f1) : Int).toNat true) ((rd_T49 l0_3 (rd x10_2 t177)).f1) y179 a0_0 a0_1 a0_2 l0_3) else (none)) else (none)) else (none)) else (none)) = some r := by first | (rw [hy179]; with_reducible exact H) | (have H2_ := (Option.bind_some _ _).symm.trans H; rw [hy179]; with_reducible exact H2_) | (have H2_ := (Option.bind_some _ _).symm.trans H; with_reducible exact H2_) | with_reducible exact H | (rw [hy179]; exact H) | exact H
                have Ny179 := Aside0.mk hy179
                clear hy179
                by_cases c43 : 0 ≤ (rd x10_2 t177)
                ·rw [if_pos c43] at H
                 have c43b0 : decide (0 ≤ (rd x10_2 t177)) = true := decide_eq_true c43
                 clear c43
                 by_cases c44 : (rd x10_2 t177) < (l0_3.length : Int)
                 ·rw [if_pos c44] at H
                  have c44b0 : decide ((rd x10_2 t177) < (l0_3.length : Int)) = true := decide_eq_true c44
                  clear c44
                  by_cases c45 : 0 ≤ ((rd_T49 l0_3 (rd x10_2 t177)).f1)
                  ·rw [if_pos c45] at H
                   have c45b0 : decide (0 ≤ ((rd_T49 l0_3 (rd x10_2 t177)).f1)) = true := decide_eq_true c45
                   clear c45
                   by_cases c46 : ((rd_T49 l0_3 (rd x10_2 t177)).f1) < (x7_1.length : Int)
                   ·rw [if_pos c46] at H
                    have c46b0 : decide (((rd_T49 l0_3 (rd x10_2 t177)).f1) < (x7_1.length : Int)) = true := decide_eq_true c46
                    clear c46
                    obtain ⟨y183, hy183⟩ : ∃ y_ : List Bool, y_ = (x7_1.set (((rd_T49 l0_3 (rd x10_2 t177)).f1) : Int).toNat true) := ⟨_, rfl⟩
                    replace H : (racewaylaw7_walked.l0 k2 l1 a2 y183 ((rd_T49 l0_3 (rd x10_2 t177)).f1) y179 a0_0 a0_1 a0_2 l0_3) = some r := by first | (rw [hy183]; with_reducible exact H) | (have H2_ := (Option.bind_some _ _).symm.trans H; rw [hy183]; with_reducible exact H2_) | (have H2_ := (Option.bind_some _ _).symm.trans H; with_reducible exact H2_) | with_reducible exact H | (rw [hy183]; exact H) | exact H
                    have Ny183 := Aside0.mk hy183
                    clear hy183
                    have H' := Aside0.mk H
                    clear H
                    have hcz48_0 : wr.cell? ⟨gb164, 0, none⟩ = some (.int .i64 a0_0) := (blk_cell BK164.out 0).trans rfl
                    have hcz48_1 : wr.cell? ⟨gb164, 1, none⟩ = some (.int .i64 a0_1) := (blk_cell BK164.out 1).trans rfl
                    have hcz48_2 : wr.cell? ⟨gb164, 2, none⟩ = some (.int .i64 a0_2) := (blk_cell BK164.out 2).trans rfl
                    have hcz48_3 : wr.cell? ⟨gb164, 3, none⟩ = some (.slice A0_3 l0_3.length c0_3) := (blk_cell BK164.out 3).trans rfl
                    have hfz48_0 := blk_frozen BK164.out 0
                    have hfz48_1 := blk_frozen BK164.out 1
                    have hfz48_2 := blk_frozen BK164.out 2
                    have hfz48_3 := blk_frozen BK164.out 3
                    obtain ⟨Ao49, co49, eo49⟩ := Kd.R_slice HO_10.out
                    subst eo49
                    obtain ⟨Ao50, co50, eo50⟩ := Kd.R_slice HO_9.out
                    subst eo50
                    go_wp2_with (first | (go_at_call 25; (with_reducible refine (racewaylaw7_pick.calls (wrap64 (Int.tdiv a2 (wrap64 ((x9_1.length : Int) + 1)))) (x10_2.length : Int) t177 _ A39.out).mono ?_); rintro e w' ⟨rfl, ⟨nd, rfl⟩⟩; (try first | exact ⟨rfl, _, World.drewN_drewN _ _ _⟩ | exact ⟨rfl, _, Eq.trans (World.drewN_drewN _ _ _) (congrArg (World.drewN _) (Nat.add_assoc _ _ _))⟩); have p178 : 0 ≤ (t177 : Int) := of_decide_eq_true (by first | (with_reducible assumption) | assumption); have q178 : t177 < (x10_2.length : Int) := of_decide_eq_true (by first | (with_reducible assumption) | assumption); obtain ⟨ad178, e178, hx178_0⟩ := Kd.at_int (Kd.R_reads' HO_10.out).2.2 t177 p178 q178; cases e178; replace p178 := eq_true p178; replace q178 := eq_true q178) | ((with_reducible refine gate_builtin (b := .append) (xs := #[.tmp 84, .tmp 86]) rfl ?_); at_builtin; refine Kd.R_append (Kd.int .i64) (w0 := w) w.heap.size rfl (.tmp 84) (.tmp 86) 23 3 (.int .i64 0) 8 rfl Try.underlying23 info3 rfl (by decide) (by omega) (.slice Ao50 x9_1.length co50) x9_1 (rd x10_2 t177) [.int .i64 (rd x10_2 t177)] (fun k_ => some k_ ≠ (.slice (some ad178) x10_2.length co49 : Value).ownBlock) (fun _ => False) rfl rfl ?aP (fun _ hk => hk.elim) ?aF ?aO ?aB ?aS ?aL ?_; (case aP => exact rfl); (case aB => exact (by repeat (first | (with_reducible first | exact HB.out | apply below_alloc | apply pw_below_drewN | apply below_drew1 | refine below_set ?_ GE164.out) | exact HB.out))); (case aF => exact (fun k_ hk => Kd.fresh' (Kd.R_lt (by (with_reducible repeat first | apply Kd.R_alloc | apply Kd.R_drewN | apply Kd.R_drew); exact HO_10.out)) k_ hk)); (case aO => exact (by (with_reducible repeat first | apply Kd.R_alloc | apply Kd.R_drewN | apply Kd.R_drew); exact HO_9.out)); (case aS => exact (below_size (by repeat (first | (with_reducible first | exact HB.out | apply below_alloc | apply pw_below_drewN | apply below_drew1 | refine below_set ?_ GE164.out) | exact HB.out)))); (case aL => have := LMc42.out; omega); intro v180 w51 ho hb hg hat; rw [← Ny179.out] at ho; have n0_ := Aside0.mk (Kd.R_over' (by (with_reducible repeat first | apply Kd.R_alloc | apply Kd.R_drewN | apply Kd.R_drew); exact HO_7.out) (Kd.R_typed (by (with_reducible repeat first | apply Kd.R_alloc | apply Kd.R_drewN | apply Kd.R_drew); exact HO_9.out)) (by decide) hg); have n1_ := Aside0.mk (Kd.R_after (ok := (fun _ => True)) (by (with_reducible repeat first | apply Kd.R_alloc | apply Kd.R_drewN | apply Kd.R_drew); exact Kd.R_mono HO_10.out (fun _ hk => ⟨trivial, hk⟩)) hg hat); have n2_ := Aside0.mk (blk_grown (g := gb164) (o := .cells #[.int .i64 a0_0, .int .i64 a0_1, .int .i64 a0_2, .slice A0_3 l0_3.length c0_3] 27 (0, 0)) (by (with_reducible repeat first | refine blk_drewN ?_ _ | refine blk_drew ?_ | refine blk_alloc ?_ _); exact BK164.out) hg (Kd.R_ne HO_9.out BK164.out (by decide))); have n3_ := Aside0.mk (hb); have n4_ := Aside0.mk (ho); clear HO_7; clear HO_10; clear BK164; clear HB; clear HO_9; have HO_7 := n0_; have HO_10 := n1_; have BK164 := n2_; have HB := n3_; have HO181 := n4_; clear n0_ n1_ n2_ n3_ n4_; clear ho hb hg hat; have hcz52_0 : w51.cell? ⟨gb164, 0, none⟩ = some (.int .i64 a0_0) := (blk_cell BK164.out 0).trans rfl; have hcz52_1 : w51.cell? ⟨gb164, 1, none⟩ = some (.int .i64 a0_1) := (blk_cell BK164.out 1).trans rfl; have hcz52_2 : w51.cell? ⟨gb164, 2, none⟩ = some (.int .i64 a0_2) := (blk_cell BK164.out 2).trans rfl; have hcz52_3 : w51.cell? ⟨gb164, 3, none⟩ = some (.slice A0_3 l0_3.length c0_3) := (blk_cell BK164.out 3).trans rfl; have hfz52_0 := blk_frozen BK164.out 0; have hfz52_1 := blk_frozen BK164.out 1; have hfz52_2 := blk_frozen BK164.out 2; have hfz52_3 := blk_frozen BK164.out 3; have p182 : 0 ≤ ((rd x10_2 t177) : Int) := of_decide_eq_true (by first | (with_reducible assumption) | assumption); have q182 : (rd x10_2 t177) < (l0_3.length : Int) := of_decide_eq_true (by first | (with_reducible assumption) | assumption); obtain ⟨ad182, e182, hx182_0, hx182_1, hx182_2⟩ := at_T49 HR0_3.out (rd x10_2 t177) p182 q182; cases e182; replace hx182_0 := (HB.out.cell (World.block_lt_of_cell? w _ hx182_0)).trans hx182_0; replace hx182_1 := (HB.out.cell (World.block_lt_of_cell? w _ hx182_1)).trans hx182_1; replace hx182_2 := (HB.out.cell (World.block_lt_of_cell? w _ hx182_2)).trans hx182_2; replace p182 := eq_true p182; replace q182 := eq_true q182; have p47 : 0 ≤ (((rd_T49 l0_3 (rd x10_2 t177)).f1) : Int) := of_decide_eq_true (by first | (with_reducible assumption) | assumption); have q47 : (((rd_T49 l0_3 (rd x10_2 t177)).f1) : Int) < ((x7_1.length : Int) : Int) := of_decide_eq_true (by first | (with_reducible assumption) | assumption); obtain ⟨hx47_0, hf47_0⟩ := Kd.R_celln false HO_7.out (((rd_T49 l0_3 (rd x10_2 t177)).f1) : Int) p47 q47; replace p47 := eq_true p47; replace q47 := eq_true q47; obtain ⟨hy53_, hz53_⟩ := Kd.R_celln false HO_7.out (((rd_T49 l0_3 (rd x10_2 t177)).f1) : Int) (of_decide_eq_true (by first | (with_reducible assumption) | assumption)) (of_decide_eq_true (by first | (with_reducible assumption) | assumption)); have HP53 := Kd.R_putg HO_7.out (((rd_T49 l0_3 (rd x10_2 t177)).f1) : Int) true) | ((with_reducible refine gate_store (t := 4) (p := 96) rfl ?_); (try (rw [drewN_self w51]; generalize hq_ : World.drewN w51 _ = w51; have n0_ := Aside0.mk (Kd.R_at hq_ HO_7.out); have n1_ := Aside0.mk (Kd.R_at hq_ HO_10.out); have n2_ := Aside0.mk (Kd.R_at hq_ HO181.out); have n3_ := Aside0.mk (blk_at hq_ BK164.out); have n4_ := Aside0.mk (below_at hq_ HB.out); clear hq_ HO_7 HO_10 HO181 BK164 HB; have HO_7 := n0_; have HO_10 := n1_; have HO181 := n2_; have BK164 := n3_; have HB := n4_; clear n0_ n1_ n2_ n3_ n4_; (try (obtain ⟨hy53_, hz53_⟩ := Kd.R_celln false HO_7.out (((rd_T49 l0_3 (rd x10_2 t177)).f1) : Int) (of_decide_eq_true (by first | (with_reducible assumption) | assumption)) (of_decide_eq_true (by first | (with_reducible assumption) | assumption)))); (try (have HP53 := Kd.R_putg HO_7.out (((rd_T49 l0_3 (rd x10_2 t177)).f1) : Int) true)))); refine store_event (t := 4) (p := 96) (v := ?vo_w54) (w1 := (w51.setCell ⟨go9, (((rd_T49 l0_3 (rd x10_2 t177)).f1) : Int).toNat, none⟩ (.bool true))) ?hg ?ho ?hn ?hr ?_; (case ho => rfl); (case hg => rfl); (case hn => rfl); (case hr => first | (go_simp; done) | (go_simp; rfl)); intro w54 hw; have hg : w51.grownBy w54 (some go9) := (by rw [hw]; exact HP53.2); have hp_ : Kd.R Kd.bool 4 w54 w.heap.size (fun _ => True) (.slice (some ⟨go9, 0, none⟩) x7_1.length co9) y183 := (by rw [hw, Ny183.out]; exact HP53.1); clear HP53; have n0_ := Aside0.mk (hp_); have n1_ := Aside0.mk (Kd.R_over' (v := (.slice (some ⟨go9, 0, none⟩) x7_1.length co9)) (by (with_reducible repeat first | apply Kd.R_alloc | apply Kd.R_drewN | apply Kd.R_drew); exact HO_10.out) (Kd.R_typed HO_7.out) (by decide) hg); have n2_ := Aside0.mk (blk_grown (g := gb164) (o := .cells #[.int .i64 a0_0, .int .i64 a0_1, .int .i64 a0_2, .slice (some ad182) l0_3.length c0_3] 27 (0, 0)) (by (with_reducible repeat first | refine blk_drewN ?_ _ | refine blk_drew ?_ | refine blk_alloc ?_ _); exact BK164.out) hg (Kd.R_ne HO_7.out BK164.out (by decide))); have n3_ := Aside0.mk (Kd.R_over' (v := (.slice (some ⟨go9, 0, none⟩) x7_1.length co9)) (by (with_reducible repeat first | apply Kd.R_alloc | apply Kd.R_drewN | apply Kd.R_drew); exact HO181.out) (Kd.R_typed HO_7.out) (by decide) hg); have n4_ := Aside0.mk ((by rw [hw]; exact below_set (HB.out) GB9.out : Below w.heap.size w w54)); clear HO_7; clear HO_10; clear BK164; clear HO181; clear HB; have HO_7 := n0_; have HO_10 := n1_; have BK164 := n2_; have HO181 := n3_; have HB := n4_; clear n0_ n1_ n2_ n3_ n4_; clear hg hw hp_))
                    repeat (go_quiet (first | (go_at_call 25; (with_reducible refine (racewaylaw7_pick.calls (wrap64 (Int.tdiv a2 (wrap64 ((x9_1.length : Int) + 1)))) (x10_2.length : Int) t177 _ A39.out).mono ?_); rintro e w' ⟨rfl, ⟨nd, rfl⟩⟩; (try first | exact ⟨rfl, _, World.drewN_drewN _ _ _⟩ | exact ⟨rfl, _, Eq.trans (World.drewN_drewN _ _ _) (congrArg (World.drewN _) (Nat.add_assoc _ _ _))⟩); have p178 : 0 ≤ (t177 : Int) := of_decide_eq_true (by first | (with_reducible assumption) | assumption); have q178 : t177 < (x10_2.length : Int) := of_decide_eq_true (by first | (with_reducible assumption) | assumption); obtain ⟨ad178, e178, hx178_0⟩ := Kd.at_int (Kd.R_reads' HO_10.out).2.2 t177 p178 q178; cases e178; replace p178 := eq_true p178; replace q178 := eq_true q178) | ((with_reducible refine gate_builtin (b := .append) (xs := #[.tmp 84, .tmp 86]) rfl ?_); at_builtin; refine Kd.R_append (Kd.int .i64) (w0 := w) w.heap.size rfl (.tmp 84) (.tmp 86) 23 3 (.int .i64 0) 8 rfl Try.underlying23 info3 rfl (by decide) (by omega) (.slice Ao50 x9_1.length co50) x9_1 (rd x10_2 t177) [.int .i64 (rd x10_2 t177)] (fun k_ => some k_ ≠ (.slice (some ad178) x10_2.length co49 : Value).ownBlock) (fun _ => False) rfl rfl ?aP (fun _ hk => hk.elim) ?aF ?aO ?aB ?aS ?aL ?_; (case aP => exact rfl); (case aB => exact (by repeat (first | (with_reducible first | exact HB.out | apply below_alloc | apply pw_below_drewN | apply below_drew1 | refine below_set ?_ GE164.out) | exact HB.out))); (case aF => exact (fun k_ hk => Kd.fresh' (Kd.R_lt (by (with_reducible repeat first | apply Kd.R_alloc | apply Kd.R_drewN | apply Kd.R_drew); exact HO_10.out)) k_ hk)); (case aO => exact (by (with_reducible repeat first | apply Kd.R_alloc | apply Kd.R_drewN | apply Kd.R_drew); exact HO_9.out)); (case aS => exact (below_size (by repeat (first | (with_reducible first | exact HB.out | apply below_alloc | apply pw_below_drewN | apply below_drew1 | refine below_set ?_ GE164.out) | exact HB.out)))); (case aL => have := LMc42.out; omega); intro v180 w51 ho hb hg hat; rw [← Ny179.out] at ho; have n0_ := Aside0.mk (Kd.R_over' (by (with_reducible repeat first | apply Kd.R_alloc | apply Kd.R_drewN | apply Kd.R_drew); exact HO_7.out) (Kd.R_typed (by (with_reducible repeat first | apply Kd.R_alloc | apply Kd.R_drewN | apply Kd.R_drew); exact HO_9.out)) (by decide) hg); have n1_ := Aside0.mk (Kd.R_after (ok := (fun _ => True)) (by (with_reducible repeat first | apply Kd.R_alloc | apply Kd.R_drewN | apply Kd.R_drew); exact Kd.R_mono HO_10.out (fun _ hk => ⟨trivial, hk⟩)) hg hat); have n2_ := Aside0.mk (blk_grown (g := gb164) (o := .cells #[.int .i64 a0_0, .int .i64 a0_1, .int .i64 a0_2, .slice A0_3 l0_3.length c0_3] 27 (0, 0)) (by (with_reducible repeat first | refine blk_drewN ?_ _ | refine blk_drew ?_ | refine blk_alloc ?_ _); exact BK164.out) hg (Kd.R_ne HO_9.out BK164.out (by decide))); have n3_ := Aside0.mk (hb); have n4_ := Aside0.mk (ho); clear HO_7; clear HO_10; clear BK164; clear HB; clear HO_9; have HO_7 := n0_; have HO_10 := n1_; have BK164 := n2_; have HB := n3_; have HO181 := n4_; clear n0_ n1_ n2_ n3_ n4_; clear ho hb hg hat; have hcz52_0 : w51.cell? ⟨gb164, 0, none⟩ = some (.int .i64 a0_0) := (blk_cell BK164.out 0).trans rfl; have hcz52_1 : w51.cell? ⟨gb164, 1, none⟩ = some (.int .i64 a0_1) := (blk_cell BK164.out 1).trans rfl; have hcz52_2 : w51.cell? ⟨gb164, 2, none⟩ = some (.int .i64 a0_2) := (blk_cell BK164.out 2).trans rfl; have hcz52_3 : w51.cell? ⟨gb164, 3, none⟩ = some (.slice A0_3 l0_3.length c0_3) := (blk_cell BK164.out 3).trans rfl; have hfz52_0 := blk_frozen BK164.out 0; have hfz52_1 := blk_frozen BK164.out 1; have hfz52_2 := blk_frozen BK164.out 2; have hfz52_3 := blk_frozen BK164.out 3; have p182 : 0 ≤ ((rd x10_2 t177) : Int) := of_decide_eq_true (by first | (with_reducible assumption) | assumption); have q182 : (rd x10_2 t177) < (l0_3.length : Int) := of_decide_eq_true (by first | (with_reducible assumption) | assumption); obtain ⟨ad182, e182, hx182_0, hx182_1, hx182_2⟩ := at_T49 HR0_3.out (rd x10_2 t177) p182 q182; cases e182; replace hx182_0 := (HB.out.cell (World.block_lt_of_cell? w _ hx182_0)).trans hx182_0; replace hx182_1 := (HB.out.cell (World.block_lt_of_cell? w _ hx182_1)).trans hx182_1; replace hx182_2 := (HB.out.cell (World.block_lt_of_cell? w _ hx182_2)).trans hx182_2; replace p182 := eq_true p182; replace q182 := eq_true q182; have p47 : 0 ≤ (((rd_T49 l0_3 (rd x10_2 t177)).f1) : Int) := of_decide_eq_true (by first | (with_reducible assumption) | assumption); have q47 : (((rd_T49 l0_3 (rd x10_2 t177)).f1) : Int) < ((x7_1.length : Int) : Int) := of_decide_eq_true (by first | (with_reducible assumption) | assumption); obtain ⟨hx47_0, hf47_0⟩ := Kd.R_celln false HO_7.out (((rd_T49 l0_3 (rd x10_2 t177)).f1) : Int) p47 q47; replace p47 := eq_true p47; replace q47 := eq_true q47; obtain ⟨hy53_, hz53_⟩ := Kd.R_celln false HO_7.out (((rd_T49 l0_3 (rd x10_2 t177)).f1) : Int) (of_decide_eq_true (by first | (with_reducible assumption) | assumption)) (of_decide_eq_true (by first | (with_reducible assumption) | assumption)); have HP53 := Kd.R_putg HO_7.out (((rd_T49 l0_3 (rd x10_2 t177)).f1) : Int) true) | ((with_reducible refine gate_store (t := 4) (p := 96) rfl ?_); (try (rw [drewN_self w51]; generalize hq_ : World.drewN w51 _ = w51; have n0_ := Aside0.mk (Kd.R_at hq_ HO_7.out); have n1_ := Aside0.mk (Kd.R_at hq_ HO_10.out); have n2_ := Aside0.mk (Kd.R_at hq_ HO181.out); have n3_ := Aside0.mk (blk_at hq_ BK164.out); have n4_ := Aside0.mk (below_at hq_ HB.out); clear hq_ HO_7 HO_10 HO181 BK164 HB; have HO_7 := n0_; have HO_10 := n1_; have HO181 := n2_; have BK164 := n3_; have HB := n4_; clear n0_ n1_ n2_ n3_ n4_; (try (obtain ⟨hy53_, hz53_⟩ := Kd.R_celln false HO_7.out (((rd_T49 l0_3 (rd x10_2 t177)).f1) : Int) (of_decide_eq_true (by first | (with_reducible assumption) | assumption)) (of_decide_eq_true (by first | (with_reducible assumption) | assumption)))); (try (have HP53 := Kd.R_putg HO_7.out (((rd_T49 l0_3 (rd x10_2 t177)).f1) : Int) true)))); refine store_event (t := 4) (p := 96) (v := ?vo_w54) (w1 := (w51.setCell ⟨go9, (((rd_T49 l0_3 (rd x10_2 t177)).f1) : Int).toNat, none⟩ (.bool true))) ?hg ?ho ?hn ?hr ?_; (case ho => rfl); (case hg => rfl); (case hn => rfl); (case hr => first | (go_simp; done) | (go_simp; rfl)); intro w54 hw; have hg : w51.grownBy w54 (some go9) := (by rw [hw]; exact HP53.2); have hp_ : Kd.R Kd.bool 4 w54 w.heap.size (fun _ => True) (.slice (some ⟨go9, 0, none⟩) x7_1.length co9) y183 := (by rw [hw, Ny183.out]; exact HP53.1); clear HP53; have n0_ := Aside0.mk (hp_); have n1_ := Aside0.mk (Kd.R_over' (v := (.slice (some ⟨go9, 0, none⟩) x7_1.length co9)) (by (with_reducible repeat first | apply Kd.R_alloc | apply Kd.R_drewN | apply Kd.R_drew); exact HO_10.out) (Kd.R_typed HO_7.out) (by decide) hg); have n2_ := Aside0.mk (blk_grown (g := gb164) (o := .cells #[.int .i64 a0_0, .int .i64 a0_1, .int .i64 a0_2, .slice (some ad182) l0_3.length c0_3] 27 (0, 0)) (by (with_reducible repeat first | refine blk_drewN ?_ _ | refine blk_drew ?_ | refine blk_alloc ?_ _); exact BK164.out) hg (Kd.R_ne HO_7.out BK164.out (by decide))); have n3_ := Aside0.mk (Kd.R_over' (v := (.slice (some ⟨go9, 0, none⟩) x7_1.length co9)) (by (with_reducible repeat first | apply Kd.R_alloc | apply Kd.R_drewN | apply Kd.R_drew); exact HO181.out) (Kd.R_typed HO_7.out) (by decide) hg); have n4_ := Aside0.mk ((by rw [hw]; exact below_set (HB.out) GB9.out : Below w.heap.size w w54)); clear HO_7; clear HO_10; clear BK164; clear HO181; clear HB; have HO_7 := n0_; have HO_10 := n1_; have BK164 := n2_; have HO181 := n3_; have HB := n4_; clear n0_ n1_ n2_ n3_ n4_; clear hg hw hp_)); try go_wp2_with (first | (go_at_call 25; (with_reducible refine (racewaylaw7_pick.calls (wrap64 (Int.tdiv a2 (wrap64 ((x9_1.length : Int) + 1)))) (x10_2.length : Int) t177 _ A39.out).mono ?_); rintro e w' ⟨rfl, ⟨nd, rfl⟩⟩; (try first | exact ⟨rfl, _, World.drewN_drewN _ _ _⟩ | exact ⟨rfl, _, Eq.trans (World.drewN_drewN _ _ _) (congrArg (World.drewN _) (Nat.add_assoc _ _ _))⟩); have p178 : 0 ≤ (t177 : Int) := of_decide_eq_true (by first | (with_reducible assumption) | assumption); have q178 : t177 < (x10_2.length : Int) := of_decide_eq_true (by first | (with_reducible assumption) | assumption); obtain ⟨ad178, e178, hx178_0⟩ := Kd.at_int (Kd.R_reads' HO_10.out).2.2 t177 p178 q178; cases e178; replace p178 := eq_true p178; replace q178 := eq_true q178) | ((with_reducible refine gate_builtin (b := .append) (xs := #[.tmp 84, .tmp 86]) rfl ?_); at_builtin; refine Kd.R_append (Kd.int .i64) (w0 := w) w.heap.size rfl (.tmp 84) (.tmp 86) 23 3 (.int .i64 0) 8 rfl Try.underlying23 info3 rfl (by decide) (by omega) (.slice Ao50 x9_1.length co50) x9_1 (rd x10_2 t177) [.int .i64 (rd x10_2 t177)] (fun k_ => some k_ ≠ (.slice (some ad178) x10_2.length co49 : Value).ownBlock) (fun _ => False) rfl rfl ?aP (fun _ hk => hk.elim) ?aF ?aO ?aB ?aS ?aL ?_; (case aP => exact rfl); (case aB => exact (by repeat (first | (with_reducible first | exact HB.out | apply below_alloc | apply pw_below_drewN | apply below_drew1 | refine below_set ?_ GE164.out) | exact HB.out))); (case aF => exact (fun k_ hk => Kd.fresh' (Kd.R_lt (by (with_reducible repeat first | apply Kd.R_alloc | apply Kd.R_drewN | apply Kd.R_drew); exact HO_10.out)) k_ hk)); (case aO => exact (by (with_reducible repeat first | apply Kd.R_alloc | apply Kd.R_drewN | apply Kd.R_drew); exact HO_9.out)); (case aS => exact (below_size (by repeat (first | (with_reducible first | exact HB.out | apply below_alloc | apply pw_below_drewN | apply below_drew1 | refine below_set ?_ GE164.out) | exact HB.out)))); (case aL => have := LMc42.out; omega); intro v180 w51 ho hb hg hat; rw [← Ny179.out] at ho; have n0_ := Aside0.mk (Kd.R_over' (by (with_reducible repeat first | apply Kd.R_alloc | apply Kd.R_drewN | apply Kd.R_drew); exact HO_7.out) (Kd.R_typed (by (with_reducible repeat first | apply Kd.R_alloc | apply Kd.R_drewN | apply Kd.R_drew); exact HO_9.out)) (by decide) hg); have n1_ := Aside0.mk (Kd.R_after (ok := (fun _ => True)) (by (with_reducible repeat first | apply Kd.R_alloc | apply Kd.R_drewN | apply Kd.R_drew); exact Kd.R_mono HO_10.out (fun _ hk => ⟨trivial, hk⟩)) hg hat); have n2_ := Aside0.mk (blk_grown (g := gb164) (o := .cells #[.int .i64 a0_0, .int .i64 a0_1, .int .i64 a0_2, .slice A0_3 l0_3.length c0_3] 27 (0, 0)) (by (with_reducible repeat first | refine blk_drewN ?_ _ | refine blk_drew ?_ | refine blk_alloc ?_ _); exact BK164.out) hg (Kd.R_ne HO_9.out BK164.out (by decide))); have n3_ := Aside0.mk (hb); have n4_ := Aside0.mk (ho); clear HO_7; clear HO_10; clear BK164; clear HB; clear HO_9; have HO_7 := n0_; have HO_10 := n1_; have BK164 := n2_; have HB := n3_; have HO181 := n4_; clear n0_ n1_ n2_ n3_ n4_; clear ho hb hg hat; have hcz52_0 : w51.cell? ⟨gb164, 0, none⟩ = some (.int .i64 a0_0) := (blk_cell BK164.out 0).trans rfl; have hcz52_1 : w51.cell? ⟨gb164, 1, none⟩ = some (.int .i64 a0_1) := (blk_cell BK164.out 1).trans rfl; have hcz52_2 : w51.cell? ⟨gb164, 2, none⟩ = some (.int .i64 a0_2) := (blk_cell BK164.out 2).trans rfl; have hcz52_3 : w51.cell? ⟨gb164, 3, none⟩ = some (.slice A0_3 l0_3.length c0_3) := (blk_cell BK164.out 3).trans rfl; have hfz52_0 := blk_frozen BK164.out 0; have hfz52_1 := blk_frozen BK164.out 1; have hfz52_2 := blk_frozen BK164.out 2; have hfz52_3 := blk_frozen BK164.out 3; have p182 : 0 ≤ ((rd x10_2 t177) : Int) := of_decide_eq_true (by first | (with_reducible assumption) | assumption); have q182 : (rd x10_2 t177) < (l0_3.length : Int) := of_decide_eq_true (by first | (with_reducible assumption) | assumption); obtain ⟨ad182, e182, hx182_0, hx182_1, hx182_2⟩ := at_T49 HR0_3.out (rd x10_2 t177) p182 q182; cases e182; replace hx182_0 := (HB.out.cell (World.block_lt_of_cell? w _ hx182_0)).trans hx182_0; replace hx182_1 := (HB.out.cell (World.block_lt_of_cell? w _ hx182_1)).trans hx182_1; replace hx182_2 := (HB.out.cell (World.block_lt_of_cell? w _ hx182_2)).trans hx182_2; replace p182 := eq_true p182; replace q182 := eq_true q182; have p47 : 0 ≤ (((rd_T49 l0_3 (rd x10_2 t177)).f1) : Int) := of_decide_eq_true (by first | (with_reducible assumption) | assumption); have q47 : (((rd_T49 l0_3 (rd x10_2 t177)).f1) : Int) < ((x7_1.length : Int) : Int) := of_decide_eq_true (by first | (with_reducible assumption) | assumption); obtain ⟨hx47_0, hf47_0⟩ := Kd.R_celln false HO_7.out (((rd_T49 l0_3 (rd x10_2 t177)).f1) : Int) p47 q47; replace p47 := eq_true p47; replace q47 := eq_true q47; obtain ⟨hy53_, hz53_⟩ := Kd.R_celln false HO_7.out (((rd_T49 l0_3 (rd x10_2 t177)).f1) : Int) (of_decide_eq_true (by first | (with_reducible assumption) | assumption)) (of_decide_eq_true (by first | (with_reducible assumption) | assumption)); have HP53 := Kd.R_putg HO_7.out (((rd_T49 l0_3 (rd x10_2 t177)).f1) : Int) true) | ((with_reducible refine gate_store (t := 4) (p := 96) rfl ?_); (try (rw [drewN_self w51]; generalize hq_ : World.drewN w51 _ = w51; have n0_ := Aside0.mk (Kd.R_at hq_ HO_7.out); have n1_ := Aside0.mk (Kd.R_at hq_ HO_10.out); have n2_ := Aside0.mk (Kd.R_at hq_ HO181.out); have n3_ := Aside0.mk (blk_at hq_ BK164.out); have n4_ := Aside0.mk (below_at hq_ HB.out); clear hq_ HO_7 HO_10 HO181 BK164 HB; have HO_7 := n0_; have HO_10 := n1_; have HO181 := n2_; have BK164 := n3_; have HB := n4_; clear n0_ n1_ n2_ n3_ n4_; (try (obtain ⟨hy53_, hz53_⟩ := Kd.R_celln false HO_7.out (((rd_T49 l0_3 (rd x10_2 t177)).f1) : Int) (of_decide_eq_true (by first | (with_reducible assumption) | assumption)) (of_decide_eq_true (by first | (with_reducible assumption) | assumption)))); (try (have HP53 := Kd.R_putg HO_7.out (((rd_T49 l0_3 (rd x10_2 t177)).f1) : Int) true)))); refine store_event (t := 4) (p := 96) (v := ?vo_w54) (w1 := (w51.setCell ⟨go9, (((rd_T49 l0_3 (rd x10_2 t177)).f1) : Int).toNat, none⟩ (.bool true))) ?hg ?ho ?hn ?hr ?_; (case ho => rfl); (case hg => rfl); (case hn => rfl); (case hr => first | (go_simp; done) | (go_simp; rfl)); intro w54 hw; have hg : w51.grownBy w54 (some go9) := (by rw [hw]; exact HP53.2); have hp_ : Kd.R Kd.bool 4 w54 w.heap.size (fun _ => True) (.slice (some ⟨go9, 0, none⟩) x7_1.length co9) y183 := (by rw [hw, Ny183.out]; exact HP53.1); clear HP53; have n0_ := Aside0.mk (hp_); have n1_ := Aside0.mk (Kd.R_over' (v := (.slice (some ⟨go9, 0, none⟩) x7_1.length co9)) (by (with_reducible repeat first | apply Kd.R_alloc | apply Kd.R_drewN | apply Kd.R_drew); exact HO_10.out) (Kd.R_typed HO_7.out) (by decide) hg); have n2_ := Aside0.mk (blk_grown (g := gb164) (o := .cells #[.int .i64 a0_0, .int .i64 a0_1, .int .i64 a0_2, .slice (some ad182) l0_3.length c0_3] 27 (0, 0)) (by (with_reducible repeat first | refine blk_drewN ?_ _ | refine blk_drew ?_ | refine blk_alloc ?_ _); exact BK164.out) hg (Kd.R_ne HO_7.out BK164.out (by decide))); have n3_ := Aside0.mk (Kd.R_over' (v := (.slice (some ⟨go9, 0, none⟩) x7_1.length co9)) (by (with_reducible repeat first | apply Kd.R_alloc | apply Kd.R_drewN | apply Kd.R_drew); exact HO181.out) (Kd.R_typed HO_7.out) (by decide) hg); have n4_ := Aside0.mk ((by rw [hw]; exact below_set (HB.out) GB9.out : Below w.heap.size w w54)); clear HO_7; clear HO_10; clear BK164; clear HO181; clear HB; have HO_7 := n0_; have HO_10 := n1_; have BK164 := n2_; have HO181 := n3_; have HB := n4_; clear n0_ n1_ n2_ n3_ n4_; clear hg hw hp_)))
                    (try simp only [← hl7_1])
                    go_roundg k2
                    case measure => have := HK1.out; have := HK2.out; omega
                    case rel => exact ⟨(y183), ((rd_T49 l0_3 (rd x10_2 t177)).f1), (y179), (by first | rfl | (simp; done) | (simp [*]; done)), H', ⟨by have := HK1.out; have := HK2.out; omega⟩, ⟨by (try simp only [hl7_1]); (with_reducible repeat first | apply Kd.R_alloc | apply Kd.R_drewN | apply Kd.R_drew); exact HO_7.out⟩, ⟨by (try simp only [hl7_1]); (with_reducible repeat first | apply Kd.R_alloc | apply Kd.R_drewN | apply Kd.R_drew); exact Kd.R_mono HO181.out (fun _ hk => trivial)⟩, ⟨by (try simp only [hl7_1]); (with_reducible repeat first | refine blk_drewN ?_ _ | refine blk_drew ?_ | refine blk_alloc ?_ _); exact BK164.out⟩, ⟨by repeat (first | (with_reducible first | exact HB.out | apply below_alloc | apply pw_below_drewN | apply below_drew1 | refine below_set ?_ GE164.out) | exact HB.out)⟩⟩
                   ·rw [if_neg c46] at H
                    exact absurd H (by simp)
                  ·rw [if_neg c45] at H
                   exact absurd H (by simp)
                 ·rw [if_neg c44] at H
                  exact absurd H (by simp)
                ·rw [if_neg c43] at H
                 exact absurd H (by simp)
               ·rw [if_neg c42] at H
                exact absurd H (by simp)
              ·rw [if_neg c41] at H
               exact absurd H (by simp)
             ·rw [if_neg c40] at H
              exact absurd H (by simp)
    ·rw [if_neg c8] at H
     exact absurd H (by simp)
   ·rw [if_neg c7] at H
    exact absurd H (by simp)
  ·rw [if_neg c6] at H
   exact absurd H (by simp)
 ·rw [if_neg c5] at H
  exact absurd H (by simp)
end Go.Proofs.Ytbppeffcikphcaa.PLevelTurned
