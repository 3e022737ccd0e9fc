/- For the law ResidualBack, for every input: printed by a program (wip/myprint), contracts by hand where it says MANUAL. -/
-- slim
import Derived.Test.YtbppeffcikphcaaPResidualBackx0
import Derived.Test.YtbppeffcikphcaaPResidualBackx6
import Derived.Test.YtbppeffcikphcaaPResidualBackx7
import Derived.Test.YtbppeffcikphcaaPResidualBackx8
import Derived.Test.YtbppeffcikphcaaPResidualBackx10
import Derived.Test.YtbppeffcikphcaaPResidualBackx12
import Derived.Test.YtbppeffcikphcaaPResidualBackx13
namespace Go.Proofs.Ytbppeffcikphcaa.PResidualBack
open Go.RowKit Go.Proofs.YtbppeffcikphcaaW.PrintWords Go.Proofs.YtbppeffcikphcaaW.PrintLast Go.Proofs.YtbppeffcikphcaaW.PrintMore
open List (setIfInBounds_toArray set_cons_zero set_cons_succ)
attribute [local go_sem] max2_int min2_int max_two min_two max_three min_three max_four min_four
set_option linter.unusedVariables false
set_option linter.unusedSimpArgs false
/-! ### racewaylaw6_ResidualBack: function 11 -/
set_option maxHeartbeats 8000000 in
set_option maxRecDepth 100000 in
theorem racewaylaw6_ResidualBack.calls (k : Nat) (A0 : Option Addr) (c0 : Nat) (l0 : List Int) (r : Bool) (w : World) (hr0 : Kd.C (Kd.int .i64) w A0 l0.length l0) (hc0 : l0.length ≤ c0) (h : racewaylaw6_ResidualBack.f k l0 = some r) (hrT_ : Aside0 (r = true)) :
  Calls Try.prog 11 #[.slice A0 l0.length c0] w fun e w' => e = .returned (.bool r) ∧ Below w.heap.size w w' := by
 have hu27 := Try.underlying27
 have hu49 := Try.underlying49
 have HR0 := Aside0.mk hr0
 have HC0 := Aside0.mk hc0
 clear hr0 hc0
 have HB := Aside0.mk (Below.refl w.heap.size w)
 have H : ((racewaylaw6_shown.f k).bind fun t2157 => (if t2157 = true then (racewaylaw6_ResidualBack.j0 k l0 t2157 (decide ((l0.length : Int) > 60))) else (racewaylaw6_ResidualBack.j0 k l0 t2157 true))) = some r := h
 clear h
 replace H := Option.bind_eq_some_iff.mp H
 obtain ⟨t2157, A20, H⟩ := H
 replace H : (if t2157 = true then (racewaylaw6_ResidualBack.j0 k l0 t2157 (decide ((l0.length : Int) > 60))) else (racewaylaw6_ResidualBack.j0 k l0 t2157 true)) = some r := H
 have A2 := Aside0.mk A20
 clear A20
 have HC3 := Aside0.mk H
 clear H
 go_enter Try.func11, Try.ntmps11
 go_upto_region 2 with (first | ((with_reducible refine gate_callee (f := 14) rfl ?_); refine goesL_ (some 19) rfl rfl Try.func14 (by kernel_rfl) rfl #[] rfl (by (try simp only [List.map_toArray, List.map_cons, List.map_nil]); first | done | rfl | (simp only [List.length_drop, List.length_take]; rfl)) ?_; (with_reducible refine (racewaylaw6_shown.calls k  t2157 _ A2.out).mono ?_); rintro e w4 ⟨rfl, hb⟩; refine ⟨_, rfl, ?_⟩; have n0_ := Aside0.mk (below_step (by repeat (first | (with_reducible first | exact HB.out | apply below_alloc | apply pw_below_drewN | apply below_drew1) | exact HB.out)) hb); clear HB; have HB := n0_; clear n0_; (try clear hb); (try clear hb2); (try clear hk); (try clear hi)))
 (try simp only [Act.put, setIfInBounds_toArray, set_cons_zero, set_cons_succ])
 go_cut [26] (fun v26 wc => ∃ (kq : Nat) (x26_2 : Bool), v26 = .bool x26_2 ∧ Aside0 (racewaylaw6_ResidualBack.j0 kq l0 t2157 x26_2 = some r) ∧ Aside0 (kq ≤ k) ∧ Aside0 (Below w.heap.size w wc))
 case first =>
  have H := HC3.out
  clear HC3
  by_cases c5 : t2157 = true
  ·subst c5
   (have H1 : (racewaylaw6_ResidualBack.j0 k l0 true (decide ((l0.length : Int) > 60))) = some r := by rw [if_pos rfl] at H; exact H);(clear H);(have H := H1);(clear H1)
   as_aux_lemma =>
    (have H' := Aside0.mk H);(clear H)
    go_wp2
    go_meet
    case rel => exact ⟨_, (decide ((l0.length : Int) > 60)), (by first | rfl | (simp; done) | (simp [*]; done)), H', ⟨by first | omega | exact Nat.le_refl _⟩, ⟨by repeat (first | (with_reducible first | exact HB.out | apply below_alloc | apply pw_below_drewN | apply below_drew1) | exact HB.out)⟩⟩
  ·replace c5 := Bool.eq_false_iff.mpr c5
   (subst c5);(have H1 : (racewaylaw6_ResidualBack.j0 k l0 false true) = some r := by rw [if_neg (show ¬ (false = true) by decide)] at H; exact H);(clear H);(have H := H1);(clear H1)
   as_aux_lemma =>
    (have H' := Aside0.mk H);(clear H)
    go_wp2
    go_meet
    case rel => exact ⟨_, (true), (by first | rfl | (simp; done) | (simp [*]; done)), H', ⟨by first | omega | exact Nat.le_refl _⟩, ⟨by repeat (first | (with_reducible first | exact HB.out | apply below_alloc | apply pw_below_drewN | apply below_drew1) | exact HB.out)⟩⟩
 case rest =>
  clear HC3
  try clear c1
  try clear p2
  try clear c5
  obtain ⟨kq, x26_2, rfl, HA, HJ2, HB⟩ := hcut
  cases kq with
  | zero => exact absurd HA.out (by simp [racewaylaw6_ResidualBack.j0])
  | succ kj2 =>
   (have H := HA.out);(clear HA);(simp only [racewaylaw6_ResidualBack.j0] at H)
   by_cases c6 : x26_2 = true
   ·(subst c6);(have H1 : (some t2157) = some r := by rw [if_pos rfl] at H; exact H);(clear H);(have H := H1);(clear H1)
    as_aux_lemma =>
     obtain rfl := Option.some.inj H
     go_wp2
     go_ret
     exact ⟨by first | rfl | (simp [errW_none, errW_some] <;> rfl) | (simp [*, errW_none, errW_some] <;> rfl), by repeat (first | (with_reducible first | exact HB.out | apply below_alloc | apply pw_below_drewN | apply below_drew1) | exact HB.out)⟩
   ·(replace c6 := Bool.eq_false_iff.mpr c6);(subst c6);(have H1 : (if 0 ≤ (l0.length : Int) then (if ((l0.length : Int) : Int).toNat ≤ 35184372088832 then (racewaylaw6_ResidualBack.l0 kj2 l0 (List.replicate ((l0.length : Int) : Int).toNat 0) (List.replicate ((l0.length : Int) : Int).toNat 0) 0 2 1 2 ([] : List (S49))) else (none)) else (none)) = some r := by rw [if_neg (show ¬ (false = true) by decide)] at H; exact H);(clear H);(have H := H1);(clear H1)
    by_cases c7 : 0 ≤ (l0.length : Int)
    ·(rw [if_pos c7] at H);(have c7b0 := eq_true c7);(have c7b1 : decide (0 ≤ (l0.length : Int)) = true := decide_eq_true c7);(clear c7)
     by_cases c8 : ((l0.length : Int) : Int).toNat ≤ 35184372088832
     ·(rw [if_pos c8] at H);(have c8b0 := eq_true c8);(have c8b1 : decide (((l0.length : Int) : Int).toNat ≤ 35184372088832) = true := decide_eq_true c8);(clear c8);(obtain ⟨y2159, hy2159⟩ : ∃ y_ : List Int, y_ = (List.replicate ((l0.length : Int) : Int).toNat 0) := ⟨_, rfl⟩);(replace H : (racewaylaw6_ResidualBack.l0 kj2 l0 y2159 (List.replicate ((l0.length : Int) : Int).toNat 0) 0 2 1 2 ([] : List (S49))) = some r := by first | (rw [hy2159]; with_reducible exact H) | (have H2_ := (Option.bind_some _ _).symm.trans H; rw [hy2159]; with_reducible exact H2_) | (have H2_ := (Option.bind_some _ _).symm.trans H; with_reducible exact H2_) | with_reducible exact H | (rw [hy2159]; exact H) | exact H);(have Ny2159 := Aside0.mk hy2159);(clear hy2159);(obtain ⟨y2162, hy2162⟩ : ∃ y_ : List Int, y_ = (List.replicate ((l0.length : Int) : Int).toNat 0) := ⟨_, rfl⟩);(replace H : (racewaylaw6_ResidualBack.l0 kj2 l0 y2159 y2162 0 2 1 2 ([] : List (S49))) = some r := by first | (rw [hy2162]; with_reducible exact H) | (have H2_ := (Option.bind_some _ _).symm.trans H; rw [hy2162]; with_reducible exact H2_) | (have H2_ := (Option.bind_some _ _).symm.trans H; with_reducible exact H2_) | with_reducible exact H | (rw [hy2162]; exact H) | exact H);(have Ny2162 := Aside0.mk hy2162);(clear hy2162);(have H' := Aside0.mk H);(clear H)
      go_wp2_with (first | ((with_reducible refine gate_dst (N := 4) rfl ?_); (try (refine gate_guard (by rfl) ?_; dsimp only)); refine box_event ?hg (N := 4) ?hd (cs := #[.int .i64 0, .int .i64 0, .int .i64 0, .slice none 0 0]) (t := 27) ?hr ?_; (case hd => rfl); (case hg => rfl); (case hr => first | (go_simp; done) | (go_simp; rfl)); intro gb2158 hg w9 hbox hb; have n0_ := Aside0.mk (below_step (by repeat (first | (with_reducible first | exact HB.out | apply below_alloc | apply pw_below_drewN | apply below_drew1) | exact HB.out)) hb); have n1_ := Aside0.mk (hbox); have n2_ := Aside0.mk ((by rw [hg]; exact (below_size (by repeat (first | (with_reducible first | exact HB.out | apply below_alloc | apply pw_below_drewN | apply below_drew1) | exact HB.out))) : w.heap.size ≤ gb2158)); have n3_ := Aside0.mk ((by rw [hg]; exact (below_size (by repeat (first | (with_reducible first | exact HB.out | apply below_alloc | apply pw_below_drewN | apply below_drew1) | exact HB.out))) : w.heap.size ≤ gb2158)); clear HB; have HB := n0_; have BK2158 := n1_; have GW2158 := n2_; have GE2158 := n3_; clear n0_ n1_ n2_ n3_; clear hb hbox hg; have hcz10_0 : w9.cell? ⟨gb2158, 0, none⟩ = some (.int .i64 0) := (blk_cell BK2158.out 0).trans rfl; have hcz10_1 : w9.cell? ⟨gb2158, 1, none⟩ = some (.int .i64 0) := (blk_cell BK2158.out 1).trans rfl; have hcz10_2 : w9.cell? ⟨gb2158, 2, none⟩ = some (.int .i64 0) := (blk_cell BK2158.out 2).trans rfl; have hcz10_3 : w9.cell? ⟨gb2158, 3, none⟩ = some (.slice none 0 0) := (blk_cell BK2158.out 3).trans rfl; have hfz10_0 := blk_frozen BK2158.out 0; have hfz10_1 := blk_frozen BK2158.out 1; have hfz10_2 := blk_frozen BK2158.out 2; have hfz10_3 := blk_frozen BK2158.out 3) | ((with_reducible refine gate_dst (N := 31) rfl ?_); (try (refine gate_guard (by rfl) ?_; dsimp only)); refine Kd.R_make (Kd.int .i64) _ 2 rfl (N := 31) rfl 29 _ _ rfl (l0.length : Int) rfl rfl Try.underlying29 (.int .i64 0) 8 info2 rfl (by decide) (by omega) 0 (ok := fun _ => True) (okp := fun _ => True) rfl (fun _ hk => hk) trivial (of_decide_eq_true (by first | (with_reducible assumption) | assumption)) (Nat.le_trans (Nat.mul_le_mul_right _ (of_decide_eq_true (by first | (with_reducible assumption) | assumption) : (l0.length : Int).toNat ≤ 35184372088832)) (by omega)) (Below.refl _ _) (Nat.le_refl _) ?_; intro v2160 w11 ho12 hb hg_ hnew_; clear hg_ hnew_; (first | rw [← Ny2159.out] at ho12 | (simp only [Int.reduceToNat] at ho12; rw [← Ny2159.out] at ho12)); have n0_ := Aside0.mk (Kd.R_lower ho12 (below_size (by repeat (first | (with_reducible first | exact HB.out | apply below_alloc | apply pw_below_drewN | apply below_drew1 | refine below_set ?_ GE2158.out) | exact HB.out)))); have n1_ := Aside0.mk (blk_below (g := gb2158) (o := .cells #[.int .i64 2, .int .i64 1, .int .i64 2, .slice none 0 0] 27 (0, 0)) (by (with_reducible repeat first | refine blk_drewN ?_ _ | refine blk_drew ?_ | refine blk_alloc ?_ _); refine blk_put (cs := #[.int .i64 2, .int .i64 1, .int .i64 2, .slice none 0 0]) ?_ 3 _ rfl; (with_reducible repeat first | refine blk_drewN ?_ _ | refine blk_drew ?_ | refine blk_alloc ?_ _); refine blk_put (cs := #[.int .i64 2, .int .i64 1, .int .i64 0, .slice none 0 0]) ?_ 2 _ rfl; (with_reducible repeat first | refine blk_drewN ?_ _ | refine blk_drew ?_ | refine blk_alloc ?_ _); refine blk_put (cs := #[.int .i64 2, .int .i64 0, .int .i64 0, .slice none 0 0]) ?_ 1 _ rfl; (with_reducible repeat first | refine blk_drewN ?_ _ | refine blk_drew ?_ | refine blk_alloc ?_ _); refine blk_put (cs := #[.int .i64 0, .int .i64 0, .int .i64 0, .slice none 0 0]) ?_ 0 _ rfl; (with_reducible repeat first | refine blk_drewN ?_ _ | refine blk_drew ?_ | refine blk_alloc ?_ _); exact BK2158.out) hb); have n2_ := Aside0.mk (below_step (by repeat (first | (with_reducible first | exact HB.out | apply below_alloc | apply pw_below_drewN | apply below_drew1 | refine below_set ?_ GE2158.out) | exact HB.out)) hb); clear BK2158; clear HB; have HO2161 := n0_; have BK2158 := n1_; have HB := n2_; clear n0_ n1_ n2_; clear hb ho12) | ((with_reducible refine gate_dst (N := 34) rfl ?_); (try (refine gate_guard (by rfl) ?_; dsimp only)); refine Kd.R_make (Kd.int .i64) _ 2 rfl (N := 34) rfl 29 _ _ rfl (l0.length : Int) rfl rfl Try.underlying29 (.int .i64 0) 8 info2 rfl (by decide) (by omega) 0 (ok := fun _ => True) (okp := fun _ => True) rfl (fun _ hk => hk) trivial (of_decide_eq_true (by first | (with_reducible assumption) | assumption)) (Nat.le_trans (Nat.mul_le_mul_right _ (of_decide_eq_true (by first | (with_reducible assumption) | assumption) : (l0.length : Int).toNat ≤ 35184372088832)) (by omega)) (Below.refl _ _) (Nat.le_refl _) ?_; intro v2163 w13 ho14 hb hg_ hnew_; clear hg_ hnew_; (first | rw [← Ny2162.out] at ho14 | (simp only [Int.reduceToNat] at ho14; rw [← Ny2162.out] at ho14)); have n0_ := Aside0.mk (Kd.R_elder' (by (with_reducible repeat first | apply Kd.R_alloc | apply Kd.R_drewN | apply Kd.R_drew); exact HO2161.out) (Kd.R_base ho14) hb); have n1_ := Aside0.mk (Kd.R_lower (Kd.R_new' ho14 (Kd.R_lt (by (with_reducible repeat first | apply Kd.R_alloc | apply Kd.R_drewN | apply Kd.R_drew); exact HO2161.out))) (below_size (by repeat (first | (with_reducible first | exact HB.out | apply below_alloc | apply pw_below_drewN | apply below_drew1 | refine below_set ?_ GE2158.out) | exact HB.out)))); have n2_ := Aside0.mk (blk_below (g := gb2158) (o := .cells #[.int .i64 2, .int .i64 1, .int .i64 2, .slice none 0 0] 27 (0, 0)) (by (with_reducible repeat first | refine blk_drewN ?_ _ | refine blk_drew ?_ | refine blk_alloc ?_ _); exact BK2158.out) hb); have n3_ := Aside0.mk (below_step (by repeat (first | (with_reducible first | exact HB.out | apply below_alloc | apply pw_below_drewN | apply below_drew1 | refine below_set ?_ GE2158.out) | exact HB.out)) hb); clear HO2161; clear BK2158; clear HB; have HO2161 := n0_; have HO2164 := n1_; have BK2158 := n2_; have HB := n3_; clear n0_ n1_ n2_ n3_; clear hb ho14))
      go_loopg [7] kj2 (fun kq v7 w' => ∃ (x6_2 : List Int) (x7_2 : Int) (x2159003_2 : List (S49)) (u2159003 : Value), v7 = .int .i64 x7_2 ∧ Aside0 (racewaylaw6_ResidualBack.l0 kq l0 y2159 x6_2 x7_2 2 1 2 x2159003_2 = some r) ∧ Aside0 (kq ≤ kj2) ∧ Aside0 (Kd.R (Kd.int .i64) 2 w' w.heap.size (fun k_ => some k_ ≠ (v2163 : Value).ownBlock) v2160 y2159) ∧ Aside0 (Kd.R (Kd.int .i64) 2 w' w.heap.size (fun k_ => some k_ ≠ (v2160 : Value).ownBlock) v2163 x6_2) ∧ Aside0 (Kd.R k49 49 w' w.heap.size (fun _ => True) u2159003 x2159003_2) ∧ Aside0 (w'.heap[gb2158]? = some (.cells #[.int .i64 2, .int .i64 1, .int .i64 2, u2159003] 27 (0, 0))) ∧ Aside0 (Below w.heap.size w w'))
      case atStart => exact ⟨(y2162), (0), (([] : List (S49))), (.slice none 0 0), (by first | rfl | (simp; done) | (simp [*]; done)), H', ⟨Nat.le_refl _⟩, ⟨by (with_reducible repeat first | apply Kd.R_alloc | apply Kd.R_drewN | apply Kd.R_drew); exact Kd.R_mono HO2161.out (fun _ hk => hk.2)⟩, ⟨by (with_reducible repeat first | apply Kd.R_alloc | apply Kd.R_drewN | apply Kd.R_drew); exact Kd.R_mono HO2164.out (fun _ hk => hk.2)⟩, ⟨by first | exact Kd.R_nil _ _ _ _ _ | exact Kd.N_nil _ _ _ _ _ | exact Kd.V_nil _ _ _ _ _ | exact Kd.Q_nil _ _ _ _ _ | exact Kd.S_nil _ _ _ _ _⟩, ⟨by (with_reducible repeat first | refine blk_drewN ?_ _ | refine blk_drew ?_ | refine blk_alloc ?_ _); exact BK2158.out⟩, ⟨by repeat (first | (with_reducible first | exact HB.out | apply below_alloc | apply pw_below_drewN | apply below_drew1 | refine below_set ?_ GE2158.out) | exact HB.out)⟩⟩
      case round =>
       clear H'
       try clear c1
       try clear p2
       try clear c5
       try clear c6
       try clear c7
       try clear c7b0
       try clear c7b1
       try clear c8
       try clear c8b0
       try clear c8b1
       try clear c11
       try clear c14
       try clear hcz10_0
       try clear hcz10_1
       try clear hcz10_2
       try clear hcz10_3
       try clear hfz10_0
       try clear hfz10_1
       try clear hfz10_2
       try clear hfz10_3
       try clear p2
       obtain ⟨x6_2, x7_2, x2159003_2, u2159003, rfl, HA, HK2, HO_5, HO_6, HO_2159003, BK2158, HB⟩ := hrel
       cases gk with
       | zero => exact absurd HA.out (by simp [racewaylaw6_ResidualBack.l0])
       | succ k2 =>
        (have H := HA.out);(clear HA);(simp only [racewaylaw6_ResidualBack.l0] at H)
        by_cases c15 : x7_2 < (l0.length : Int)
        ·(rw [if_pos c15] at H);(have c15b0 : decide (x7_2 < (l0.length : Int)) = true := decide_eq_true c15);(clear c15)
         by_cases c16 : 0 ≤ x7_2
         ·(rw [if_pos c16] at H);(have c16b0 : decide (0 ≤ x7_2) = true := decide_eq_true c16);(clear c16);(replace H := Option.bind_eq_some_iff.mp H);(obtain ⟨t2166, A170, H⟩ := H);(replace H : (if x7_2 < (x6_2.length : Int) then ((some (x6_2.set (x7_2 : Int).toNat t2166 : List Int)).bind fun y2167 => (if x2159003_2.length < 5864062014805 then (racewaylaw6_ResidualBack.l0 k2 l0 y2159 y2167 (wrap64 (x7_2 + 1)) 2 1 2 (x2159003_2 ++ [(⟨1, 2, rd y2167 x7_2⟩ : S49)])) else (none))) else (none)) = some r := H);(have A17 := Aside0.mk A170);(clear A170)
          by_cases c18 : x7_2 < (x6_2.length : Int)
          ·(rw [if_pos c18] at H);(have c18b0 : decide (x7_2 < (x6_2.length : Int)) = true := decide_eq_true c18);(clear c18);(obtain ⟨y2167, hy2167⟩ : ∃ y_ : List Int, y_ = (x6_2.set (x7_2 : Int).toNat t2166) := ⟨_, rfl⟩);(replace H : (if x2159003_2.length < 5864062014805 then (racewaylaw6_ResidualBack.l0 k2 l0 y2159 y2167 (wrap64 (x7_2 + 1)) 2 1 2 (x2159003_2 ++ [(⟨1, 2, rd y2167 x7_2⟩ : S49)])) else (none)) = some r := by first | (rw [hy2167]; with_reducible exact H) | (have H2_ := (Option.bind_some _ _).symm.trans H; rw [hy2167]; with_reducible exact H2_) | (have H2_ := (Option.bind_some _ _).symm.trans H; with_reducible exact H2_) | with_reducible exact H | (rw [hy2167]; exact H) | exact H);(have Ny2167 := Aside0.mk hy2167);(clear hy2167)
           by_cases c20 : x2159003_2.length < 5864062014805
           ·(rw [if_pos c20] at H);(have LMc20 := Aside0.mk c20);(clear c20);(obtain ⟨y2169, hy2169⟩ : ∃ y_ : List (S49), y_ = (x2159003_2 ++ [(⟨1, 2, rd y2167 x7_2⟩ : S49)]) := ⟨_, rfl⟩);(replace H : (racewaylaw6_ResidualBack.l0 k2 l0 y2159 y2167 (wrap64 (x7_2 + 1)) 2 1 2 y2169) = some r := by first | (rw [hy2169]; with_reducible exact H) | (have H2_ := (Option.bind_some _ _).symm.trans H; rw [hy2169]; with_reducible exact H2_) | (have H2_ := (Option.bind_some _ _).symm.trans H; with_reducible exact H2_) | with_reducible exact H | (rw [hy2169]; exact H) | exact H);(have Ny2169 := Aside0.mk hy2169);(clear hy2169)
            as_aux_lemma =>
             (have H' := Aside0.mk H);(clear H);(have p2165 : 0 ≤ (x7_2 : Int) := of_decide_eq_true (by first | (with_reducible assumption) | assumption));(have q2165 : x7_2 < (l0.length : Int) := of_decide_eq_true (by first | (with_reducible assumption) | assumption));(obtain ⟨ad2165, e2165, hx2165_0⟩ := Kd.at_int HR0.out x7_2 p2165 q2165);(cases e2165);(replace hx2165_0 := (HB.out.cell (World.block_lt_of_cell? w _ hx2165_0)).trans hx2165_0);(replace p2165 := eq_true p2165);(replace q2165 := eq_true q2165)
             try go_wp2_with (first | ((with_reducible refine gate_callee (f := 17) rfl ?_); refine goesL_ (some 47) rfl rfl Try.func17 (by kernel_rfl) rfl #[.int .i64 (rd l0 x7_2), .int .i64 50] rfl (by (try simp only [List.map_toArray, List.map_cons, List.map_nil]); first | done | rfl | (simp only [List.length_drop, List.length_take]; rfl)) ?_; (with_reducible refine (racewaylaw6_pick.calls (rd l0 x7_2) 50 t2166 _ A17.out).mono ?_); rintro e w' ⟨rfl, ⟨nd, rfl⟩⟩; refine ⟨_, rfl, ?_⟩; (try (rw [drewN_self wr]; generalize hq_ : World.drewN wr _ = wr; have n0_ : Aside0 (Kd.R k49 49 wr w.heap.size (fun _ => True) u2159003 x2159003_2) := ⟨by rw [← hq_]; exact (by (with_reducible repeat first | apply Kd.R_alloc | apply Kd.R_drewN | apply Kd.R_drew); exact HO_2159003.out)⟩; have n1_ : Aside0 (Kd.R (Kd.int .i64) 2 wr w.heap.size (fun k_ => some k_ ≠ (v2163 : Value).ownBlock) v2160 y2159) := ⟨by rw [← hq_]; exact (by (with_reducible repeat first | apply Kd.R_alloc | apply Kd.R_drewN | apply Kd.R_drew); exact HO_5.out)⟩; have n2_ : Aside0 (Kd.R (Kd.int .i64) 2 wr w.heap.size (fun k_ => some k_ ≠ (v2160 : Value).ownBlock) v2163 x6_2) := ⟨by rw [← hq_]; exact (by (with_reducible repeat first | apply Kd.R_alloc | apply Kd.R_drewN | apply Kd.R_drew); exact HO_6.out)⟩; have n3_ : Aside0 (wr.heap[gb2158]? = some (.cells #[.int .i64 2, .int .i64 1, .int .i64 2, u2159003] 27 (0, 0))) := ⟨by rw [← hq_]; exact (by (with_reducible repeat first | refine blk_drewN ?_ _ | refine blk_drew ?_ | refine blk_alloc ?_ _); exact BK2158.out)⟩; have n4_ : Aside0 (Below w.heap.size w wr) := ⟨by rw [← hq_]; exact (by repeat (first | (with_reducible first | exact HB.out | apply below_alloc | apply pw_below_drewN | apply below_drew1 | refine below_set ?_ GE2158.out) | exact HB.out))⟩; clear HO_2159003 HO_5 HO_6 BK2158 HB hq_; have HO_2159003 := n0_; have HO_5 := n1_; have HO_6 := n2_; have BK2158 := n3_; have HB := n4_; clear n0_ n1_ n2_ n3_ n4_; have hcqBK2158_0 : wr.cell? ⟨gb2158, 0, none⟩ = some (.int .i64 2) := (blk_cell BK2158.out 0).trans rfl; have hfqBK2158_0 := blk_frozen BK2158.out 0; have hcqBK2158_1 : wr.cell? ⟨gb2158, 1, none⟩ = some (.int .i64 1) := (blk_cell BK2158.out 1).trans rfl; have hfqBK2158_1 := blk_frozen BK2158.out 1; have hcqBK2158_2 : wr.cell? ⟨gb2158, 2, none⟩ = some (.int .i64 2) := (blk_cell BK2158.out 2).trans rfl; have hfqBK2158_2 := blk_frozen BK2158.out 2; have hcqBK2158_3 : wr.cell? ⟨gb2158, 3, none⟩ = some (u2159003) := (blk_cell BK2158.out 3).trans rfl; have hfqBK2158_3 := blk_frozen BK2158.out 3)); have p19 : 0 ≤ (x7_2 : Int) := of_decide_eq_true (by first | (with_reducible assumption) | assumption); have q19 : (x7_2 : Int) < ((x6_2.length : Int) : Int) := of_decide_eq_true (by first | (with_reducible assumption) | assumption); obtain ⟨go19, co19, eo19, gb19, gl19, cl19, HG19⟩ := Kd.R_form HO_6.out (by omega); (first | cases eo19 | (injection eo19 with ea_ en_ ec_; (first | subst ea_ | (injection ea_ with ea_; subst ea_)); subst ec_; clear en_)); have GB19 := Aside0.mk gb19; have GG19 := Aside0.mk HG19; clear gb19 gl19 HG19; obtain ⟨hx19_0, hf19_0⟩ := Kd.R_celln 0 HO_6.out (x7_2 : Int) p19 q19; replace p19 := eq_true p19; replace q19 := eq_true q19; obtain ⟨hy21_, hz21_⟩ := Kd.R_celln 0 HO_6.out (x7_2 : Int) (of_decide_eq_true (by first | (with_reducible assumption) | assumption)) (of_decide_eq_true (by first | (with_reducible assumption) | assumption)); have HP21 := Kd.R_putg HO_6.out (x7_2 : Int) t2166) | ((with_reducible refine gate_store (t := 2) (p := 48) rfl ?_); refine store_event (t := 2) (p := 48) (v := ?vo_w22) (w1 := (wr.setCell ⟨go19, (x7_2 : Int).toNat, none⟩ (.int .i64 t2166))) ?hg ?ho ?hn ?hr ?_; (case ho => rfl); (case hg => rfl); (case hn => rfl); (case hr => first | (go_simp; done) | (go_simp; rfl)); intro w22 hw; have hg : wr.grownBy w22 (some go19) := (by rw [hw]; exact HP21.2); have hp_ : Kd.R (Kd.int .i64) 2 w22 w.heap.size (fun k_ => some k_ ≠ (v2160 : Value).ownBlock) (.slice (some ⟨go19, 0, none⟩) x6_2.length co19) y2167 := (by rw [hw, Ny2167.out]; exact HP21.1); clear HP21; have n0_ := Aside0.mk (Kd.R_after (v := (.slice (some ⟨go19, 0, none⟩) x6_2.length co19)) (v1 := (.slice (some ⟨go19, 0, none⟩) x6_2.length co19)) (ok := (fun _ => True)) (by (with_reducible repeat first | apply Kd.R_alloc | apply Kd.R_drewN | apply Kd.R_drew); exact Kd.R_mono HO_5.out (fun _ hk => ⟨trivial, hk⟩)) hg (.inl rfl)); have n1_ := Aside0.mk (hp_); have n2_ := Aside0.mk (Kd.R_over' (v := (.slice (some ⟨go19, 0, none⟩) x6_2.length co19)) (by (with_reducible repeat first | apply Kd.R_alloc | apply Kd.R_drewN | apply Kd.R_drew); exact HO_2159003.out) (Kd.R_typed HO_6.out) (by decide) hg); have n3_ := Aside0.mk (blk_grown (g := gb2158) (o := .cells #[.int .i64 2, .int .i64 1, .int .i64 2, u2159003] 27 (0, 0)) (by (with_reducible repeat first | refine blk_drewN ?_ _ | refine blk_drew ?_ | refine blk_alloc ?_ _); exact BK2158.out) hg (Kd.R_ne HO_6.out BK2158.out (by decide))); have n4_ := Aside0.mk ((by rw [hw]; exact below_set (HB.out) GB19.out : Below w.heap.size w w22)); clear HO_5; clear HO_6; clear HO_2159003; clear BK2158; clear HB; have HO_5 := n0_; have HO_6 := n1_; have HO_2159003 := n2_; have BK2158 := n3_; have HB := n4_; clear n0_ n1_ n2_ n3_ n4_; clear hg hw hp_))
             (have n0_ := Aside0.mk (Kd.R_drew HO_5.out));(have n1_ := Aside0.mk (Kd.R_drew HO_6.out));(have n2_ := Aside0.mk (Kd.R_drew HO_2159003.out));(have n3_ := Aside0.mk (blk_drew BK2158.out));(have n4_ := Aside0.mk (below_drew1 HB.out));(clear HO_5);(clear HO_6);(clear HO_2159003);(clear BK2158);(clear HB);(have HO_5 := n0_);(have HO_6 := n1_);(have HO_2159003 := n2_);(have BK2158 := n3_);(have HB := n4_);(clear n0_ n1_ n2_ n3_ n4_);(have p2168 : 0 ≤ (x7_2 : Int) := of_decide_eq_true (by first | (with_reducible assumption) | assumption));(have q2168 : x7_2 < (y2167.length : Int) := (by have h_ : (x7_2 : Int) < ((x6_2.length : Int) : Int) := of_decide_eq_true (by first | (with_reducible assumption) | assumption); first | (have e_ := (Kd.R_reads' HO_6.out).1; omega) | simpa only [Ny2167.out, List.length_set] using h_));(have ql2168 : ((x7_2 : Int) < ((x6_2.length : Int) : Int)) = True := eq_true (of_decide_eq_true (by first | (with_reducible assumption) | assumption)));(obtain ⟨ad2168, e2168, hx2168_0⟩ := Kd.at_int (Kd.R_reads' HO_6.out).2.2 x7_2 p2168 q2168);(obtain rfl : (⟨go19, 0, none⟩ : Addr) = ad2168 := (by injection e2168));((first | simp only [add_plain] at hx2168_0 | simp only [add_at] at hx2168_0 | simp only [Addr.add, Nat.zero_add] at hx2168_0 | skip));(replace p2168 := eq_true p2168);(replace q2168 := eq_true q2168);(refine start_ (n := 11) (S := fun w' => w'.cell? ⟨gb2158, 0, none⟩ = some (.int .i64 2) ∧ w'.cell? ⟨gb2158, 1, none⟩ = some (.int .i64 1) ∧ w'.cell? ⟨gb2158, 2, none⟩ = some (.int .i64 2) ∧ w'.cell? ⟨gb2158, 3, none⟩ = some (u2159003) ∧ w'.cell? ⟨go19, (x7_2).toNat, none⟩ = some (.int .i64 (rd y2167 x7_2))) (ds := [8, 10]) #[false, false, false, false, false, false, false, false, false, false, false] (by kernel_rfl) rfl rfl ⟨(blk_cell BK2158.out 0).trans rfl, (blk_cell BK2158.out 1).trans rfl, (blk_cell BK2158.out 2).trans rfl, (blk_cell BK2158.out 3).trans rfl, hx2168_0⟩ (fun hHeld => ?_); refine with_tabW racewaylaw6_ResidualBack.tab11 racewaylaw6_ResidualBack.bits11 (fun HT_ HW_ => ?_));(generalize w22.drew = w23 at HO_5 HO_6 HO_2159003 BK2158 HB hx2168_0 hHeld ⊢);(refine pure_ (i := 0) (N := some 49) (v := ?_) (a' := ?_) #[true, false, false, false, false, false, false, false, false, false, false] rfl rfl (any_of HT_.out (by kernel_rfl)) (fun _ _ _ h => h) (Or.inl ⟨by rfl, ?_⟩) ?_ ?_)
             rotate_left
             ·intro w'
              go_simp
              with_reducible rfl
             rotate_left
             ·simp only [Act.put, setIfInBounds_toArray, set_cons_zero, set_cons_succ, i64_w, i32_w]
              rfl
             refine pure_ (i := 2) (N := some 51) (v := ?_) (a' := ?_) #[true, false, true, false, false, false, false, false, false, false, false] rfl rfl (any_of HT_.out (by kernel_rfl)) (fun _ _ _ h => h) (Or.inl ⟨by rfl, ?_⟩) ?_ ?_
             rotate_left
             ·intro w'
              go_simp
              with_reducible rfl
             rotate_left
             ·simp only [Act.put, setIfInBounds_toArray, set_cons_zero, set_cons_succ, i64_w, i32_w]
              rfl
             refine pure_ (i := 3) (N := some 52) (v := ?_) (a' := ?_) #[true, false, true, true, false, false, false, false, false, false, false] rfl rfl (any_of HT_.out (by kernel_rfl)) (fun _ _ _ h => h) (Or.inl ⟨by rfl, ?_⟩) ?_ ?_
             rotate_left
             ·intro w'
              go_simp
              with_reducible rfl
             rotate_left
             ·simp only [Act.put, setIfInBounds_toArray, set_cons_zero, set_cons_succ, i64_w, i32_w]
              rfl
             refine pure_ (i := 4) (N := some 53) (v := ?_) (a' := ?_) #[true, false, true, true, true, false, false, false, false, false, false] rfl rfl (any_of HT_.out (by kernel_rfl)) (fun _ _ _ h => h) (Or.inl ⟨by rfl, ?_⟩) ?_ ?_
             rotate_left
             ·intro w'
              go_simp
              with_reducible rfl
             rotate_left
             ·simp only [Act.put, setIfInBounds_toArray, set_cons_zero, set_cons_succ, i64_w, i32_w]
              rfl
             refine take_ (i := 1) (N := some 50) (v := ?_) (a' := ?_) #[true, true, true, true, true, false, false, false, false, false, false] rfl rfl (take_ofW HT_.out HW_.out (by kernel_rfl)) (fun _ _ _ h => h) (Or.inl ⟨by rfl, ?_⟩) hHeld ?_ ?_
             rotate_left
             ·rintro w' ⟨s0, s1, s2, s3, s4⟩
              go_simp
              with_reducible rfl
             rotate_left
             ·simp only [Act.put, setIfInBounds_toArray, set_cons_zero, set_cons_succ, i64_w, i32_w]
              rfl
             refine take_ (i := 5) (N := some 54) (v := ?_) (a' := ?_) #[true, true, true, true, true, true, false, false, false, false, false] rfl rfl (take_ofW HT_.out HW_.out (by kernel_rfl)) (fun _ _ _ h => h) (Or.inl ⟨by rfl, ?_⟩) hHeld ?_ ?_
             rotate_left
             ·rintro w' ⟨s0, s1, s2, s3, s4⟩
              go_simp
              with_reducible rfl
             rotate_left
             ·simp only [Act.put, setIfInBounds_toArray, set_cons_zero, set_cons_succ, i64_w, i32_w]
              rfl
             refine pure_ (i := 6) (N := some 55) (v := ?_) (a' := ?_) #[true, true, true, true, true, true, true, false, false, false, false] rfl rfl (any_of HT_.out (by kernel_rfl)) (fun _ _ _ h => h) (Or.inl ⟨by rfl, ?_⟩) ?_ ?_
             rotate_left
             ·intro w'
              go_simp
              with_reducible rfl
             rotate_left
             ·simp only [Act.put, setIfInBounds_toArray, set_cons_zero, set_cons_succ, i64_w, i32_w]
              rfl
             (refine one_ (i := 7) (N := some 56) #[true, true, true, true, true, true, true, true, false, false, false] rfl rfl (one_of HT_.out (by kernel_rfl)) (by decide) (fun K hK => ?_));(refine value_ (w1 := ?_) (v := ?_) (by rfl) rfl ?_ ?_)
             rotate_left 2
             ·go_simp
              constructor
              ·rfl
              ·rfl
             (refine hK.out _ _ ⟨(blk_cell (blk_alloc BK2158.out _) 0).trans rfl, (blk_cell (blk_alloc BK2158.out _) 1).trans rfl, (blk_cell (blk_alloc BK2158.out _) 2).trans rfl, (blk_cell (blk_alloc BK2158.out _) 3).trans rfl, (World.cell?_alloc_lt _ _ _ (World.block_lt_of_cell? _ _ (hHeld.2.2.2.2))).trans (hHeld.2.2.2.2)⟩ (fun hHeld => ?_));(clear hK K);(refine norm_ (a' := ?_) ?_ ?_)
             rotate_left
             ·show Act.put _ (some 56) _ = _
              simp only [Act.put, setIfInBounds_toArray, set_cons_zero, set_cons_succ, i64_w, i32_w]
              rfl
             (refine last_ (i := 8) (N := some 57) #[true, true, true, true, true, true, true, true, true, false, false] rfl rfl (one_of HT_.out (by kernel_rfl)) (by decide) (fun K hK => ?_));(refine Kd.R_append_step k49 (w0 := w) w.heap.size (by rfl) (.tmp 50) (.tmp 56) 25 49 (.agg #[(.int .i64 0), (.int .i64 0), (.int .i64 0)]) 24 rfl Try.underlying25 info49 rfl (by decide) (by omega) u2159003 x2159003_2 (⟨1, 2, rd y2167 x7_2⟩ : S49) [.int .i64 1, .int .i64 2, .int .i64 (rd y2167 x7_2)] (fun _ => True) (fun _ => False) rfl rfl ?aP (fun _ hk => hk.elim) ?aF ?aO ?aB ?aS ?aL ?_)
             (case aP => exact k49_mkM _ _ _ (⟨1, 2, rd y2167 x7_2⟩ : S49))
             (case aB => exact (by repeat (first | (with_reducible first | exact HB.out | apply below_alloc | apply pw_below_drewN | apply below_drew1 | refine below_set ?_ GE2158.out) | exact HB.out)))
             (case aF => exact (fun _ _ => trivial))
             (case aO => exact (by (with_reducible repeat first | apply Kd.R_alloc | apply Kd.R_drewN | apply Kd.R_drew); exact HO_2159003.out))
             (case aS => exact (below_size (by repeat (first | (with_reducible first | exact HB.out | apply below_alloc | apply pw_below_drewN | apply below_drew1 | refine below_set ?_ GE2158.out) | exact HB.out))))
             (case aL => have := LMc20.out; omega)
             (intro v2170 w24 ho hb hg hat);(rw [← Ny2169.out] at ho);(have n0_ := Aside0.mk (Kd.R_over' (by (with_reducible repeat first | apply Kd.R_alloc | apply Kd.R_drewN | apply Kd.R_drew); exact HO_5.out) (Kd.R_typed (by (with_reducible repeat first | apply Kd.R_alloc | apply Kd.R_drewN | apply Kd.R_drew); exact HO_2159003.out)) (by decide) hg));(have n1_ := Aside0.mk (Kd.R_over' (by (with_reducible repeat first | apply Kd.R_alloc | apply Kd.R_drewN | apply Kd.R_drew); exact HO_6.out) (Kd.R_typed (by (with_reducible repeat first | apply Kd.R_alloc | apply Kd.R_drewN | apply Kd.R_drew); exact HO_2159003.out)) (by decide) hg));(have n2_ := Aside0.mk (blk_grown (g := gb2158) (o := .cells #[.int .i64 2, .int .i64 1, .int .i64 2, u2159003] 27 (0, 0)) (by (with_reducible repeat first | refine blk_drewN ?_ _ | refine blk_drew ?_ | refine blk_alloc ?_ _); exact BK2158.out) hg (Kd.R_ne HO_2159003.out BK2158.out (by decide))));(have n3_ := Aside0.mk (hb));(have n4_ := Aside0.mk (ho));(clear HO_5);(clear HO_6);(clear BK2158);(clear HB);(clear HO_2159003);(have HO_5 := n0_);(have HO_6 := n1_);(have BK2158 := n2_);(have HB := n3_);(have HO2171 := n4_);(clear n0_ n1_ n2_ n3_ n4_);(clear ho hb hg hat);(obtain ⟨Ao25, co25, eo25⟩ := Kd.R_slice HO2171.out);((first | subst eo25 | (injection eo25 with f1_ f2_ f3_; have f4_ := f1_.symm; have f5_ := f3_.symm; clear f1_ f2_ f3_; subst f4_; subst f5_)));(refine hK.out _ _ ?_);(clear hK K);(refine norm_ (a' := ?_) ?_ ?_)
             rotate_left
             ·show Act.put _ (some 57) _ = _
              simp only [Act.put, setIfInBounds_toArray, set_cons_zero, set_cons_succ, i64_w, i32_w]
              rfl
             refine pure_ (i := 9) (N := some 58) (v := ?_) (a' := ?_) #[true, true, true, true, true, true, true, true, true, true, false] rfl rfl (any_of HT_.out (by kernel_rfl)) (fun _ _ _ h => h) (Or.inl ⟨by rfl, ?_⟩) ?_ ?_
             rotate_left
             ·intro w'
              go_simp
              with_reducible rfl
             rotate_left
             ·simp only [Act.put, setIfInBounds_toArray, set_cons_zero, set_cons_succ, i64_w, i32_w]
              rfl
             (refine last_ (i := 10) (N := none) #[true, true, true, true, true, true, true, true, true, true, true] rfl rfl (one_of HT_.out (by kernel_rfl)) (by decide) (fun K hK => ?_));(have hs26 : w24.cell? ⟨gb2158, 3, none⟩ = some (u2159003) := (blk_cell BK2158.out 3).trans rfl);(have hfs26 := blk_frozen BK2158.out 3);(refine skip_ (w1 := ?_) (by rfl) rfl ?_ ?_)
             rotate_left
             ·go_simp
              rfl
             (refine hK.out _ _ ?_);(clear hK K);(refine done_ (done_of HT_.out (by kernel_rfl)) ?_)
             try go_wp2
             go_roundg k2
             case measure => have := HJ2.out; have := HK2.out; omega
             case rel => exact ⟨(y2167), (wrap64 (x7_2 + 1)), (y2169), (.slice Ao25 y2169.length co25), (by first | rfl | (simp; done) | (simp [*]; done)), H', ⟨by have := HJ2.out; have := HK2.out; omega⟩, ⟨by (with_reducible repeat first | apply Kd.R_alloc | apply Kd.R_drewN | apply Kd.R_drew); exact Kd.R_mono (Kd.R_far (p := ⟨gb2158, 3, none⟩) (Kd.R_types HO_5.out BK2158.out (by decide)) (fun _ hk => hk.2) (.slice Ao25 y2169.length co25)) (fun _ hk => hk.1.2)⟩, ⟨by (with_reducible repeat first | apply Kd.R_alloc | apply Kd.R_drewN | apply Kd.R_drew); exact Kd.R_mono (Kd.R_far (p := ⟨gb2158, 3, none⟩) (Kd.R_types HO_6.out BK2158.out (by decide)) (fun _ hk => hk.2) (.slice Ao25 y2169.length co25)) (fun _ hk => hk.1)⟩, ⟨by (with_reducible repeat first | apply Kd.R_alloc | apply Kd.R_drewN | apply Kd.R_drew); exact Kd.R_mono (Kd.R_far (p := ⟨gb2158, 3, none⟩) (Kd.R_types HO2171.out BK2158.out (by decide)) (fun _ hk => hk.2) (.slice Ao25 y2169.length co25)) (fun _ hk => trivial)⟩, ⟨by (with_reducible repeat first | refine blk_drewN ?_ _ | refine blk_drew ?_ | refine blk_alloc ?_ _); refine blk_put (cs := #[.int .i64 2, .int .i64 1, .int .i64 2, u2159003]) ?_ 3 _ rfl; (with_reducible repeat first | refine blk_drewN ?_ _ | refine blk_drew ?_ | refine blk_alloc ?_ _); exact BK2158.out⟩, ⟨by repeat (first | (with_reducible first | exact HB.out | apply below_alloc | apply pw_below_drewN | apply below_drew1 | refine below_set ?_ GE2158.out) | exact HB.out)⟩⟩
           ·(rw [if_neg c20] at H);(exact absurd H (by simp))
          ·(rw [if_neg c18] at H);(exact absurd H (by simp))
         ·(rw [if_neg c16] at H);(exact absurd H (by simp))
        ·(rw [if_neg c15] at H);(have c15b0 : decide (x7_2 < (l0.length : Int)) = false := decide_eq_false c15);(clear c15);(replace H := Option.bind_eq_some_iff.mp H);(obtain ⟨⟨t2172, t2175⟩, A270, H⟩ := H);(replace H : ((residual_Room.f k2 2 1 2 x2159003_2 x6_2).bind fun bt2176 => ((residual_Reach.f k2 2 1 2 x2159003_2 x6_2 1).bind fun bt2180 => (if t2175 = 0 then (if bt2176.2 = 0 then (if bt2180.2 = 0 then (if 2 < (bt2180.1.length : Int) then (racewaylaw6_ResidualBack.j2 k2 l0 y2159 x6_2 t2172 bt2176.1 (rdOf false bt2180.1 2) 2 1 2 x2159003_2) else (none)) else (racewaylaw6_ResidualBack.j2 k2 l0 y2159 x6_2 t2172 bt2176.1 true 2 1 2 x2159003_2)) else (racewaylaw6_ResidualBack.j2 k2 l0 y2159 x6_2 t2172 bt2176.1 true 2 1 2 x2159003_2)) else (racewaylaw6_ResidualBack.j2 k2 l0 y2159 x6_2 t2172 bt2176.1 true 2 1 2 x2159003_2)))) = some r := H);(have A27 := Aside0.mk A270);(clear A270);(replace H := Option.bind_eq_some_iff.mp H);(obtain ⟨⟨t2176, t2179⟩, A280, H⟩ := H);(replace H : ((residual_Reach.f k2 2 1 2 x2159003_2 x6_2 1).bind fun bt2180 => (if t2175 = 0 then (if t2179 = 0 then (if bt2180.2 = 0 then (if 2 < (bt2180.1.length : Int) then (racewaylaw6_ResidualBack.j2 k2 l0 y2159 x6_2 t2172 t2176 (rdOf false bt2180.1 2) 2 1 2 x2159003_2) else (none)) else (racewaylaw6_ResidualBack.j2 k2 l0 y2159 x6_2 t2172 t2176 true 2 1 2 x2159003_2)) else (racewaylaw6_ResidualBack.j2 k2 l0 y2159 x6_2 t2172 t2176 true 2 1 2 x2159003_2)) else (racewaylaw6_ResidualBack.j2 k2 l0 y2159 x6_2 t2172 t2176 true 2 1 2 x2159003_2))) = some r := H);(have A28 := Aside0.mk A280);(clear A280);(replace H := Option.bind_eq_some_iff.mp H);(obtain ⟨⟨t2180, t2183⟩, A290, H⟩ := H);(replace H : (if t2175 = 0 then (if t2179 = 0 then (if t2183 = 0 then (if 2 < (t2180.length : Int) then (racewaylaw6_ResidualBack.j2 k2 l0 y2159 x6_2 t2172 t2176 (rdOf false t2180 2) 2 1 2 x2159003_2) else (none)) else (racewaylaw6_ResidualBack.j2 k2 l0 y2159 x6_2 t2172 t2176 true 2 1 2 x2159003_2)) else (racewaylaw6_ResidualBack.j2 k2 l0 y2159 x6_2 t2172 t2176 true 2 1 2 x2159003_2)) else (racewaylaw6_ResidualBack.j2 k2 l0 y2159 x6_2 t2172 t2176 true 2 1 2 x2159003_2)) = some r := H);(have A29 := Aside0.mk A290);(clear A290);(have HC30 := Aside0.mk H);(clear H);(have hcz31_0 : wr.cell? ⟨gb2158, 0, none⟩ = some (.int .i64 2) := (blk_cell BK2158.out 0).trans rfl);(have hcz31_1 : wr.cell? ⟨gb2158, 1, none⟩ = some (.int .i64 1) := (blk_cell BK2158.out 1).trans rfl);(have hcz31_2 : wr.cell? ⟨gb2158, 2, none⟩ = some (.int .i64 2) := (blk_cell BK2158.out 2).trans rfl);(have hcz31_3 : wr.cell? ⟨gb2158, 3, none⟩ = some (u2159003) := (blk_cell BK2158.out 3).trans rfl);(have hfz31_0 := blk_frozen BK2158.out 0);(have hfz31_1 := blk_frozen BK2158.out 1);(have hfz31_2 := blk_frozen BK2158.out 2);(have hfz31_3 := blk_frozen BK2158.out 3);(obtain ⟨Ao32, co32, eo32⟩ := Kd.R_slice HO_2159003.out);(subst eo32);(obtain ⟨Ao33, co33, eo33⟩ := Kd.R_slice HO_5.out);(subst eo33)
         go_upto_region 15 with (first | ((with_reducible refine gate_callee (f := 18) rfl ?_); refine goesL_ (some 62) rfl rfl Try.func18 (by kernel_rfl) rfl #[.agg #[.int .i64 2, .int .i64 1, .int .i64 2, .slice Ao32 x2159003_2.length co32], .slice Ao33 y2159.length co33] rfl (by (try simp only [List.map_toArray, List.map_cons, List.map_nil]); first | done | rfl | (simp only [List.length_drop, List.length_take]; rfl)) ?_; (with_reducible refine (residual_Room.calls k2 2 1 2 _ _ x2159003_2 _ _ y2159 t2172 t2175 _ ?side1 ?side2 ?side3 ?side4 A27.out).mono ?_); (case side1 => repeat (first | exact (Kd.R_reads' HO_2159003.out).2.2 | (with_reducible refine Kd.C_alloc ?_ _) | (with_reducible refine Kd.C_drewN ?_ _) | (with_reducible refine Kd.C_drew ?_))); (case side2 => exact (Kd.R_reads' HO_2159003.out).2.1); (case side3 => repeat (first | exact (Kd.R_reads' HO_5.out).2.2 | (with_reducible refine Kd.C_alloc ?_ _) | (with_reducible refine Kd.C_drewN ?_ _) | (with_reducible refine Kd.C_drew ?_))); (case side4 => exact (Kd.R_reads' HO_5.out).2.1); rintro e w34 ⟨v2173, rfl, ho0, hb⟩; refine ⟨_, rfl, ?_⟩; have n0_ := Aside0.mk (Kd.R_elder' (by (with_reducible repeat first | apply Kd.R_alloc | apply Kd.R_drewN | apply Kd.R_drew); exact HO_5.out) (Kd.R_base ho0) hb); have n1_ := Aside0.mk (Kd.R_elder' (by (with_reducible repeat first | apply Kd.R_alloc | apply Kd.R_drewN | apply Kd.R_drew); exact HO_6.out) (Kd.R_base ho0) hb); have n2_ := Aside0.mk (Kd.R_below (by (with_reducible repeat first | apply Kd.R_alloc | apply Kd.R_drewN | apply Kd.R_drew); exact HO_2159003.out) hb); have n3_ := Aside0.mk (Kd.R_lower (Kd.R_new' (Kd.R_new' ho0 (Kd.R_lt (by (with_reducible repeat first | apply Kd.R_alloc | apply Kd.R_drewN | apply Kd.R_drew); exact HO_5.out))) (Kd.R_lt (by (with_reducible repeat first | apply Kd.R_alloc | apply Kd.R_drewN | apply Kd.R_drew); exact HO_6.out))) (below_size (by repeat (first | (with_reducible first | exact HB.out | apply below_alloc | apply pw_below_drewN | apply below_drew1 | refine below_set ?_ GE2158.out) | exact HB.out)))); have n4_ := Aside0.mk (blk_below (g := gb2158) (o := .cells #[.int .i64 2, .int .i64 1, .int .i64 2, .slice Ao32 x2159003_2.length co32] 27 (0, 0)) (by (with_reducible repeat first | refine blk_drewN ?_ _ | refine blk_drew ?_ | refine blk_alloc ?_ _); exact BK2158.out) hb); have n5_ := Aside0.mk (below_step (by repeat (first | (with_reducible first | exact HB.out | apply below_alloc | apply pw_below_drewN | apply below_drew1 | refine below_set ?_ GE2158.out) | exact HB.out)) hb); clear HO_5; clear HO_6; clear HO_2159003; clear BK2158; clear HB; have HO_5 := n0_; have HO_6 := n1_; have HO_2159003 := n2_; have HO2174 := n3_; have BK2158 := n4_; have HB := n5_; clear n0_ n1_ n2_ n3_ n4_ n5_; (try clear hb); (try clear hb2); (try clear hk); (try clear hi); (try clear ho0); have hcz35_0 : w34.cell? ⟨gb2158, 0, none⟩ = some (.int .i64 2) := (blk_cell BK2158.out 0).trans rfl; have hcz35_1 : w34.cell? ⟨gb2158, 1, none⟩ = some (.int .i64 1) := (blk_cell BK2158.out 1).trans rfl; have hcz35_2 : w34.cell? ⟨gb2158, 2, none⟩ = some (.int .i64 2) := (blk_cell BK2158.out 2).trans rfl; have hcz35_3 : w34.cell? ⟨gb2158, 3, none⟩ = some (.slice Ao32 x2159003_2.length co32) := (blk_cell BK2158.out 3).trans rfl; have hfz35_0 := blk_frozen BK2158.out 0; have hfz35_1 := blk_frozen BK2158.out 1; have hfz35_2 := blk_frozen BK2158.out 2; have hfz35_3 := blk_frozen BK2158.out 3; obtain ⟨Ao36, co36, eo36⟩ := Kd.R_slice HO_6.out; subst eo36) | ((with_reducible refine gate_callee (f := 18) rfl ?_); refine goesL_ (some 68) rfl rfl Try.func18 (by kernel_rfl) rfl #[.agg #[.int .i64 2, .int .i64 1, .int .i64 2, .slice Ao32 x2159003_2.length co32], .slice Ao36 x6_2.length co36] rfl (by (try simp only [List.map_toArray, List.map_cons, List.map_nil]); first | done | rfl | (simp only [List.length_drop, List.length_take]; rfl)) ?_; (with_reducible refine (residual_Room.calls k2 2 1 2 _ _ x2159003_2 _ _ x6_2 t2176 t2179 _ ?side1 ?side2 ?side3 ?side4 A28.out).mono ?_); (case side1 => repeat (first | exact (Kd.R_reads' HO_2159003.out).2.2 | (with_reducible refine Kd.C_alloc ?_ _) | (with_reducible refine Kd.C_drewN ?_ _) | (with_reducible refine Kd.C_drew ?_))); (case side2 => exact (Kd.R_reads' HO_2159003.out).2.1); (case side3 => repeat (first | exact (Kd.R_reads' HO_6.out).2.2 | (with_reducible refine Kd.C_alloc ?_ _) | (with_reducible refine Kd.C_drewN ?_ _) | (with_reducible refine Kd.C_drew ?_))); (case side4 => exact (Kd.R_reads' HO_6.out).2.1); rintro e w37 ⟨v2177, rfl, ho0, hb⟩; refine ⟨_, rfl, ?_⟩; have n0_ := Aside0.mk (Kd.R_elder' (by (with_reducible repeat first | apply Kd.R_alloc | apply Kd.R_drewN | apply Kd.R_drew); exact HO_5.out) (Kd.R_base ho0) hb); have n1_ := Aside0.mk (Kd.R_elder' (by (with_reducible repeat first | apply Kd.R_alloc | apply Kd.R_drewN | apply Kd.R_drew); exact HO_6.out) (Kd.R_base ho0) hb); have n2_ := Aside0.mk (Kd.R_below (by (with_reducible repeat first | apply Kd.R_alloc | apply Kd.R_drewN | apply Kd.R_drew); exact HO_2159003.out) hb); have n3_ := Aside0.mk (Kd.R_elder' (by (with_reducible repeat first | apply Kd.R_alloc | apply Kd.R_drewN | apply Kd.R_drew); exact HO2174.out) (Kd.R_base ho0) hb); have n4_ := Aside0.mk (Kd.R_lower (Kd.R_new' (Kd.R_new' (Kd.R_new' ho0 (Kd.R_lt (by (with_reducible repeat first | apply Kd.R_alloc | apply Kd.R_drewN | apply Kd.R_drew); exact HO_5.out))) (Kd.R_lt (by (with_reducible repeat first | apply Kd.R_alloc | apply Kd.R_drewN | apply Kd.R_drew); exact HO_6.out))) (Kd.R_lt (by (with_reducible repeat first | apply Kd.R_alloc | apply Kd.R_drewN | apply Kd.R_drew); exact HO2174.out))) (below_size (by repeat (first | (with_reducible first | exact HB.out | apply below_alloc | apply pw_below_drewN | apply below_drew1 | refine below_set ?_ GE2158.out) | exact HB.out)))); have n5_ := Aside0.mk (blk_below (g := gb2158) (o := .cells #[.int .i64 2, .int .i64 1, .int .i64 2, .slice Ao32 x2159003_2.length co32] 27 (0, 0)) (by (with_reducible repeat first | refine blk_drewN ?_ _ | refine blk_drew ?_ | refine blk_alloc ?_ _); exact BK2158.out) hb); have n6_ := Aside0.mk (below_step (by repeat (first | (with_reducible first | exact HB.out | apply below_alloc | apply pw_below_drewN | apply below_drew1 | refine below_set ?_ GE2158.out) | exact HB.out)) hb); clear HO_5; clear HO_6; clear HO_2159003; clear HO2174; clear BK2158; clear HB; have HO_5 := n0_; have HO_6 := n1_; have HO_2159003 := n2_; have HO2174 := n3_; have HO2178 := n4_; have BK2158 := n5_; have HB := n6_; clear n0_ n1_ n2_ n3_ n4_ n5_ n6_; (try clear hb); (try clear hb2); (try clear hk); (try clear hi); (try clear ho0); have hcz38_0 : w37.cell? ⟨gb2158, 0, none⟩ = some (.int .i64 2) := (blk_cell BK2158.out 0).trans rfl; have hcz38_1 : w37.cell? ⟨gb2158, 1, none⟩ = some (.int .i64 1) := (blk_cell BK2158.out 1).trans rfl; have hcz38_2 : w37.cell? ⟨gb2158, 2, none⟩ = some (.int .i64 2) := (blk_cell BK2158.out 2).trans rfl; have hcz38_3 : w37.cell? ⟨gb2158, 3, none⟩ = some (.slice Ao32 x2159003_2.length co32) := (blk_cell BK2158.out 3).trans rfl; have hfz38_0 := blk_frozen BK2158.out 0; have hfz38_1 := blk_frozen BK2158.out 1; have hfz38_2 := blk_frozen BK2158.out 2; have hfz38_3 := blk_frozen BK2158.out 3) | ((with_reducible refine gate_callee (f := 19) rfl ?_); refine goesL_ (some 74) rfl rfl Try.func19 (by kernel_rfl) rfl #[.agg #[.int .i64 2, .int .i64 1, .int .i64 2, .slice Ao32 x2159003_2.length co32], .slice Ao36 x6_2.length co36, .int .i64 1] rfl (by (try simp only [List.map_toArray, List.map_cons, List.map_nil]); first | done | rfl | (simp only [List.length_drop, List.length_take]; rfl)) ?_; (with_reducible refine (residual_Reach.calls k2 2 1 2 _ _ x2159003_2 _ _ x6_2 1 t2180 t2183 _ ?side1 ?side2 ?side3 ?side4 A29.out).mono ?_); (case side1 => repeat (first | exact (Kd.R_reads' HO_2159003.out).2.2 | (with_reducible refine Kd.C_alloc ?_ _) | (with_reducible refine Kd.C_drewN ?_ _) | (with_reducible refine Kd.C_drew ?_))); (case side2 => exact (Kd.R_reads' HO_2159003.out).2.1); (case side3 => repeat (first | exact (Kd.R_reads' HO_6.out).2.2 | (with_reducible refine Kd.C_alloc ?_ _) | (with_reducible refine Kd.C_drewN ?_ _) | (with_reducible refine Kd.C_drew ?_))); (case side4 => exact (Kd.R_reads' HO_6.out).2.1); rintro e w39 ⟨v2181, rfl, ho0, hb⟩; refine ⟨_, rfl, ?_⟩; have n0_ := Aside0.mk (Kd.R_below (by (with_reducible repeat first | apply Kd.R_alloc | apply Kd.R_drewN | apply Kd.R_drew); exact HO_5.out) hb); have n1_ := Aside0.mk (Kd.R_below (by (with_reducible repeat first | apply Kd.R_alloc | apply Kd.R_drewN | apply Kd.R_drew); exact HO_6.out) hb); have n2_ := Aside0.mk (Kd.R_below (by (with_reducible repeat first | apply Kd.R_alloc | apply Kd.R_drewN | apply Kd.R_drew); exact HO_2159003.out) hb); have n3_ := Aside0.mk (Kd.R_below (by (with_reducible repeat first | apply Kd.R_alloc | apply Kd.R_drewN | apply Kd.R_drew); exact HO2174.out) hb); have n4_ := Aside0.mk (Kd.R_below (by (with_reducible repeat first | apply Kd.R_alloc | apply Kd.R_drewN | apply Kd.R_drew); exact HO2178.out) hb); have n5_ := Aside0.mk (Kd.R_lower ho0 (below_size (by repeat (first | (with_reducible first | exact HB.out | apply below_alloc | apply pw_below_drewN | apply below_drew1 | refine below_set ?_ GE2158.out) | exact HB.out)))); have n6_ := Aside0.mk (blk_below (g := gb2158) (o := .cells #[.int .i64 2, .int .i64 1, .int .i64 2, .slice Ao32 x2159003_2.length co32] 27 (0, 0)) (by (with_reducible repeat first | refine blk_drewN ?_ _ | refine blk_drew ?_ | refine blk_alloc ?_ _); exact BK2158.out) hb); have n7_ := Aside0.mk (below_step (by repeat (first | (with_reducible first | exact HB.out | apply below_alloc | apply pw_below_drewN | apply below_drew1 | refine below_set ?_ GE2158.out) | exact HB.out)) hb); clear HO_5; clear HO_6; clear HO_2159003; clear HO2174; clear HO2178; clear BK2158; clear HB; have HO_5 := n0_; have HO_6 := n1_; have HO_2159003 := n2_; have HO2174 := n3_; have HO2178 := n4_; have HO2182 := n5_; have BK2158 := n6_; have HB := n7_; clear n0_ n1_ n2_ n3_ n4_ n5_ n6_ n7_; (try clear hb); (try clear hb2); (try clear hk); (try clear hi); (try clear ho0)))
         (try simp only [Act.put, setIfInBounds_toArray, set_cons_zero, set_cons_succ])
         go_cut [91] (fun v91 wc => ∃ (kq : Nat) (x91_29 : Bool), v91 = .bool x91_29 ∧ Aside0 (racewaylaw6_ResidualBack.j2 kq l0 y2159 x6_2 t2172 t2176 x91_29 2 1 2 x2159003_2 = some r) ∧ Aside0 (kq ≤ k2) ∧ Aside0 (Kd.R (Kd.int .i64) 2 wc w.heap.size (fun k_ => some k_ ≠ ((.slice Ao36 x6_2.length co36) : Value).ownBlock ∧ some k_ ≠ (v2173 : Value).ownBlock ∧ some k_ ≠ (v2177 : Value).ownBlock) (.slice Ao33 y2159.length co33) y2159) ∧ Aside0 (Kd.R (Kd.int .i64) 2 wc w.heap.size (fun k_ => some k_ ≠ ((.slice Ao33 y2159.length co33) : Value).ownBlock ∧ some k_ ≠ (v2173 : Value).ownBlock ∧ some k_ ≠ (v2177 : Value).ownBlock) (.slice Ao36 x6_2.length co36) x6_2) ∧ Aside0 (Kd.R (Kd.int .i64) 2 wc w.heap.size (fun k_ => some k_ ≠ ((.slice Ao33 y2159.length co33) : Value).ownBlock ∧ some k_ ≠ ((.slice Ao36 x6_2.length co36) : Value).ownBlock ∧ some k_ ≠ (v2177 : Value).ownBlock) v2173 t2172) ∧ Aside0 (Kd.R (Kd.int .i64) 2 wc w.heap.size (fun k_ => some k_ ≠ ((.slice Ao33 y2159.length co33) : Value).ownBlock ∧ some k_ ≠ ((.slice Ao36 x6_2.length co36) : Value).ownBlock ∧ some k_ ≠ (v2173 : Value).ownBlock) v2177 t2176) ∧ Aside0 (Kd.R k49 49 wc w.heap.size (fun _ => True) (.slice Ao32 x2159003_2.length co32) x2159003_2) ∧ Aside0 (wc.heap[gb2158]? = some (.cells #[.int .i64 2, .int .i64 1, .int .i64 2, (.slice Ao32 x2159003_2.length co32)] 27 (0, 0))) ∧ Aside0 (Below w.heap.size w wc))
         case first =>
          (have H := HC30.out);(clear HC30)
          by_cases c40 : t2175 = 0
          ·(rw [if_pos c40] at H);(have c40b0 : (t2175 == 0) = true := beq_iff_eq.mpr c40);(have c40b1 : (t2175 != 0) = false := bne_eq_false_iff_eq.mpr c40);(clear c40);((first | rw [c40b0] | (simp only [i64_w, i32_w]; rw [c40b0]) | skip))
           by_cases c41 : t2179 = 0
           ·(rw [if_pos c41] at H);(have c41b0 : (t2179 == 0) = true := beq_iff_eq.mpr c41);(have c41b1 : (t2179 != 0) = false := bne_eq_false_iff_eq.mpr c41);(clear c41)
            by_cases c42 : t2183 = 0
            ·(rw [if_pos c42] at H);(have c42b0 : (t2183 == 0) = true := beq_iff_eq.mpr c42);(have c42b1 : (t2183 != 0) = false := bne_eq_false_iff_eq.mpr c42);(clear c42)
             by_cases c43 : 2 < (t2180.length : Int)
             ·(rw [if_pos c43] at H);(have c43b0 : decide (2 < (t2180.length : Int)) = true := decide_eq_true c43);(have c43b1 : decide (2 < t2180.length) = true := decide_eq_true (by omega));(clear c43)
              as_aux_lemma =>
               (have H' := Aside0.mk H);(clear H);(obtain ⟨Ao44, co44, eo44⟩ := Kd.R_slice HO2182.out);(subst eo44);(have p2184 : 0 ≤ (2 : Int) := (by omega));(have q2184 : 2 < (t2180.length : Int) := of_decide_eq_true (by first | (with_reducible assumption) | assumption));(obtain ⟨ad2184, e2184, hx2184_0⟩ := Kd.at_bool (Kd.R_reads' HO2182.out).2.2 2 p2184 q2184);(cases e2184);((try simp only [show (2 : Int).toNat = 2 from rfl, Nat.reduceMul, Nat.reduceEqDiff, Go.Addr.add, ↓reduceIte] at hx2184_0));(have qi2184 : (2 < t2180.length) = True := eq_true (by omega));((try rw [show ((2 : Int)).toNat = 2 from rfl] at hx2184_0));(replace p2184 := eq_true p2184);(replace q2184 := eq_true q2184)
               go_wp2
               go_meet
               case rel => exact ⟨_, (rdOf false t2180 2), (by first | rfl | (simp; done) | (simp [*]; done)), H', ⟨by have := HJ2.out; have := HK2.out; first | omega | exact Nat.le_refl _⟩, ⟨by (with_reducible repeat first | apply Kd.R_alloc | apply Kd.R_drewN | apply Kd.R_drew); exact Kd.R_mono HO_5.out (fun _ hk => ⟨hk.1.1, ⟨hk.1.2, hk.2⟩⟩)⟩, ⟨by (with_reducible repeat first | apply Kd.R_alloc | apply Kd.R_drewN | apply Kd.R_drew); exact Kd.R_mono HO_6.out (fun _ hk => ⟨hk.1.1, ⟨hk.1.2, hk.2⟩⟩)⟩, ⟨by (with_reducible repeat first | apply Kd.R_alloc | apply Kd.R_drewN | apply Kd.R_drew); exact Kd.R_mono HO2174.out (fun _ hk => ⟨hk.1.1.2, ⟨hk.1.2, hk.2⟩⟩)⟩, ⟨by (with_reducible repeat first | apply Kd.R_alloc | apply Kd.R_drewN | apply Kd.R_drew); exact Kd.R_mono HO2178.out (fun _ hk => ⟨hk.1.1.2, ⟨hk.1.2, hk.2⟩⟩)⟩, ⟨by (with_reducible repeat first | apply Kd.R_alloc | apply Kd.R_drewN | apply Kd.R_drew); exact HO_2159003.out⟩, ⟨by (with_reducible repeat first | refine blk_drewN ?_ _ | refine blk_drew ?_ | refine blk_alloc ?_ _); exact BK2158.out⟩, ⟨by repeat (first | (with_reducible first | exact HB.out | apply below_alloc | apply pw_below_drewN | apply below_drew1 | refine below_set ?_ GE2158.out) | exact HB.out)⟩⟩
             ·(rw [if_neg c43] at H);(exact absurd H (by simp))
            ·(rw [if_neg c42] at H);(have c42b0 : (t2183 == 0) = false := beq_eq_false_iff_ne.mpr c42);(have c42b1 : (t2183 != 0) = true := bne_iff_ne.mpr c42)
             as_aux_lemma =>
              (have H' := Aside0.mk H);(clear H)
              go_wp2
              go_meet
              case rel => exact ⟨_, (true), (by first | rfl | (simp; done) | (simp [*]; done)), H', ⟨by have := HJ2.out; have := HK2.out; first | omega | exact Nat.le_refl _⟩, ⟨by (with_reducible repeat first | apply Kd.R_alloc | apply Kd.R_drewN | apply Kd.R_drew); exact Kd.R_mono HO_5.out (fun _ hk => ⟨hk.1.1, ⟨hk.1.2, hk.2⟩⟩)⟩, ⟨by (with_reducible repeat first | apply Kd.R_alloc | apply Kd.R_drewN | apply Kd.R_drew); exact Kd.R_mono HO_6.out (fun _ hk => ⟨hk.1.1, ⟨hk.1.2, hk.2⟩⟩)⟩, ⟨by (with_reducible repeat first | apply Kd.R_alloc | apply Kd.R_drewN | apply Kd.R_drew); exact Kd.R_mono HO2174.out (fun _ hk => ⟨hk.1.1.2, ⟨hk.1.2, hk.2⟩⟩)⟩, ⟨by (with_reducible repeat first | apply Kd.R_alloc | apply Kd.R_drewN | apply Kd.R_drew); exact Kd.R_mono HO2178.out (fun _ hk => ⟨hk.1.1.2, ⟨hk.1.2, hk.2⟩⟩)⟩, ⟨by (with_reducible repeat first | apply Kd.R_alloc | apply Kd.R_drewN | apply Kd.R_drew); exact HO_2159003.out⟩, ⟨by (with_reducible repeat first | refine blk_drewN ?_ _ | refine blk_drew ?_ | refine blk_alloc ?_ _); exact BK2158.out⟩, ⟨by repeat (first | (with_reducible first | exact HB.out | apply below_alloc | apply pw_below_drewN | apply below_drew1 | refine below_set ?_ GE2158.out) | exact HB.out)⟩⟩
           ·(rw [if_neg c41] at H);(have c41b0 : (t2179 == 0) = false := beq_eq_false_iff_ne.mpr c41);(have c41b1 : (t2179 != 0) = true := bne_iff_ne.mpr c41)
            as_aux_lemma =>
             (have H' := Aside0.mk H);(clear H)
             go_wp2
             go_meet
             case rel => exact ⟨_, (true), (by first | rfl | (simp; done) | (simp [*]; done)), H', ⟨by have := HJ2.out; have := HK2.out; first | omega | exact Nat.le_refl _⟩, ⟨by (with_reducible repeat first | apply Kd.R_alloc | apply Kd.R_drewN | apply Kd.R_drew); exact Kd.R_mono HO_5.out (fun _ hk => ⟨hk.1.1, ⟨hk.1.2, hk.2⟩⟩)⟩, ⟨by (with_reducible repeat first | apply Kd.R_alloc | apply Kd.R_drewN | apply Kd.R_drew); exact Kd.R_mono HO_6.out (fun _ hk => ⟨hk.1.1, ⟨hk.1.2, hk.2⟩⟩)⟩, ⟨by (with_reducible repeat first | apply Kd.R_alloc | apply Kd.R_drewN | apply Kd.R_drew); exact Kd.R_mono HO2174.out (fun _ hk => ⟨hk.1.1.2, ⟨hk.1.2, hk.2⟩⟩)⟩, ⟨by (with_reducible repeat first | apply Kd.R_alloc | apply Kd.R_drewN | apply Kd.R_drew); exact Kd.R_mono HO2178.out (fun _ hk => ⟨hk.1.1.2, ⟨hk.1.2, hk.2⟩⟩)⟩, ⟨by (with_reducible repeat first | apply Kd.R_alloc | apply Kd.R_drewN | apply Kd.R_drew); exact HO_2159003.out⟩, ⟨by (with_reducible repeat first | refine blk_drewN ?_ _ | refine blk_drew ?_ | refine blk_alloc ?_ _); exact BK2158.out⟩, ⟨by repeat (first | (with_reducible first | exact HB.out | apply below_alloc | apply pw_below_drewN | apply below_drew1 | refine below_set ?_ GE2158.out) | exact HB.out)⟩⟩
          ·(rw [if_neg c40] at H);(have c40b0 : (t2175 == 0) = false := beq_eq_false_iff_ne.mpr c40);(have c40b1 : (t2175 != 0) = true := bne_iff_ne.mpr c40);((first | rw [c40b0] | (simp only [i64_w, i32_w]; rw [c40b0]) | skip))
           as_aux_lemma =>
            (have H' := Aside0.mk H);(clear H)
            go_wp2
            go_meet
            case rel => exact ⟨_, (true), (by first | rfl | (simp; done) | (simp [*]; done)), H', ⟨by have := HJ2.out; have := HK2.out; first | omega | exact Nat.le_refl _⟩, ⟨by (with_reducible repeat first | apply Kd.R_alloc | apply Kd.R_drewN | apply Kd.R_drew); exact Kd.R_mono HO_5.out (fun _ hk => ⟨hk.1.1, ⟨hk.1.2, hk.2⟩⟩)⟩, ⟨by (with_reducible repeat first | apply Kd.R_alloc | apply Kd.R_drewN | apply Kd.R_drew); exact Kd.R_mono HO_6.out (fun _ hk => ⟨hk.1.1, ⟨hk.1.2, hk.2⟩⟩)⟩, ⟨by (with_reducible repeat first | apply Kd.R_alloc | apply Kd.R_drewN | apply Kd.R_drew); exact Kd.R_mono HO2174.out (fun _ hk => ⟨hk.1.1.2, ⟨hk.1.2, hk.2⟩⟩)⟩, ⟨by (with_reducible repeat first | apply Kd.R_alloc | apply Kd.R_drewN | apply Kd.R_drew); exact Kd.R_mono HO2178.out (fun _ hk => ⟨hk.1.1.2, ⟨hk.1.2, hk.2⟩⟩)⟩, ⟨by (with_reducible repeat first | apply Kd.R_alloc | apply Kd.R_drewN | apply Kd.R_drew); exact HO_2159003.out⟩, ⟨by (with_reducible repeat first | refine blk_drewN ?_ _ | refine blk_drew ?_ | refine blk_alloc ?_ _); exact BK2158.out⟩, ⟨by repeat (first | (with_reducible first | exact HB.out | apply below_alloc | apply pw_below_drewN | apply below_drew1 | refine below_set ?_ GE2158.out) | exact HB.out)⟩⟩
         case rest =>
          clear HC30
          try clear c1
          try clear p1
          try clear q1
          try clear hx1
          try clear hf1
          try clear c2
          try clear p2
          try clear q2
          try clear hx2
          try clear qi2
          try clear c4
          try clear c5
          try clear c6
          try clear p6
          try clear c7
          try clear c7b0
          try clear c7b1
          try clear c8
          try clear c8b0
          try clear c8b1
          try clear c11
          try clear c14
          try clear c15
          try clear c15b0
          try clear c16
          try clear c16b0
          try clear c17
          try clear c18
          try clear c18b0
          try clear c19
          try clear p19
          try clear q19
          try clear hx19
          try clear hf19
          try clear c20
          try clear p21
          try clear q21
          try clear hx21
          try clear qi21
          try clear c40
          try clear c40b0
          try clear c40b1
          try clear c41
          try clear c41b0
          try clear c41b1
          try clear c42
          try clear c42b0
          try clear c42b1
          try clear c43
          try clear c43b0
          try clear c43b1
          try clear hcz10_0
          try clear hcz10_1
          try clear hcz10_2
          try clear hcz10_3
          try clear hcz31_0
          try clear hcz31_1
          try clear hcz31_2
          try clear hcz31_3
          try clear hcz35_0
          try clear hcz35_1
          try clear hcz35_2
          try clear hcz35_3
          try clear hcz38_0
          try clear hcz38_1
          try clear hcz38_2
          try clear hcz38_3
          try clear hfz10_0
          try clear hfz10_1
          try clear hfz10_2
          try clear hfz10_3
          try clear hfz31_0
          try clear hfz31_1
          try clear hfz31_2
          try clear hfz31_3
          try clear hfz35_0
          try clear hfz35_1
          try clear hfz35_2
          try clear hfz35_3
          try clear hfz38_0
          try clear hfz38_1
          try clear hfz38_2
          try clear hfz38_3
          try clear hx19_0
          try clear hx2165_0
          try clear hx2168_0
          try clear hx2184_0
          try clear p19
          try clear p2
          try clear p2165
          try clear p2168
          try clear p2184
          try clear q19
          try clear q2165
          try clear q2168
          try clear q2184
          obtain ⟨kq, x91_29, rfl, HA, HJ29, HO_5, HO_6, HO_8, HO_10, HO_2159003, BK2158, HB⟩ := hcut
          cases kq with
          | zero => exact absurd HA.out (by simp [racewaylaw6_ResidualBack.j2])
          | succ kj29 =>
           (have H := HA.out);(clear HA);(simp only [racewaylaw6_ResidualBack.j2] at H)
           by_cases c45 : x91_29 = true
           ·(subst c45);(have H1 : (some false) = some r := by rw [if_pos rfl] at H; exact H);(clear H);(have H := H1);(clear H1);(exact absurd ((Option.some.inj H).trans hrT_.out) (by simp))
           ·(replace c45 := Bool.eq_false_iff.mpr c45);(subst c45);(have H1 : (racewaylaw6_ResidualBack.l1 kj29 l0 y2159 x6_2 t2172 t2176 0 2 1 2 x2159003_2) = some r := by rw [if_neg (show ¬ (false = true) by decide)] at H; exact H);(clear H);(have H := H1);(clear H1);(have H' := Aside0.mk H);(clear H)
            go_wp2
            go_loopg [14] kj29 (fun kq v14 w' => ∃ (x14_4 : Int), v14 = .int .i64 x14_4 ∧ Aside0 (racewaylaw6_ResidualBack.l1 kq l0 y2159 x6_2 t2172 t2176 x14_4 2 1 2 x2159003_2 = some r) ∧ Aside0 (kq ≤ kj29) ∧ Aside0 (Kd.R (Kd.int .i64) 2 w' w.heap.size (fun k_ => some k_ ≠ ((.slice Ao36 x6_2.length co36) : Value).ownBlock ∧ some k_ ≠ (v2173 : Value).ownBlock ∧ some k_ ≠ (v2177 : Value).ownBlock) (.slice Ao33 y2159.length co33) y2159) ∧ Aside0 (Kd.R (Kd.int .i64) 2 w' w.heap.size (fun k_ => some k_ ≠ ((.slice Ao33 y2159.length co33) : Value).ownBlock ∧ some k_ ≠ (v2173 : Value).ownBlock ∧ some k_ ≠ (v2177 : Value).ownBlock) (.slice Ao36 x6_2.length co36) x6_2) ∧ Aside0 (Kd.R (Kd.int .i64) 2 w' w.heap.size (fun k_ => some k_ ≠ ((.slice Ao33 y2159.length co33) : Value).ownBlock ∧ some k_ ≠ ((.slice Ao36 x6_2.length co36) : Value).ownBlock ∧ some k_ ≠ (v2177 : Value).ownBlock) v2173 t2172) ∧ Aside0 (Kd.R (Kd.int .i64) 2 w' w.heap.size (fun k_ => some k_ ≠ ((.slice Ao33 y2159.length co33) : Value).ownBlock ∧ some k_ ≠ ((.slice Ao36 x6_2.length co36) : Value).ownBlock ∧ some k_ ≠ (v2173 : Value).ownBlock) v2177 t2176) ∧ Aside0 (Kd.R k49 49 w' w.heap.size (fun _ => True) (.slice Ao32 x2159003_2.length co32) x2159003_2) ∧ Aside0 (w'.heap[gb2158]? = some (.cells #[.int .i64 2, .int .i64 1, .int .i64 2, (.slice Ao32 x2159003_2.length co32)] 27 (0, 0))) ∧ Aside0 (Below w.heap.size w w'))
            case atStart => exact ⟨(0), (by first | rfl | (simp; done) | (simp [*]; done)), H', ⟨Nat.le_refl _⟩, ⟨by (with_reducible repeat first | apply Kd.R_alloc | apply Kd.R_drewN | apply Kd.R_drew); exact HO_5.out⟩, ⟨by (with_reducible repeat first | apply Kd.R_alloc | apply Kd.R_drewN | apply Kd.R_drew); exact HO_6.out⟩, ⟨by (with_reducible repeat first | apply Kd.R_alloc | apply Kd.R_drewN | apply Kd.R_drew); exact HO_8.out⟩, ⟨by (with_reducible repeat first | apply Kd.R_alloc | apply Kd.R_drewN | apply Kd.R_drew); exact HO_10.out⟩, ⟨by (with_reducible repeat first | apply Kd.R_alloc | apply Kd.R_drewN | apply Kd.R_drew); exact HO_2159003.out⟩, ⟨by (with_reducible repeat first | refine blk_drewN ?_ _ | refine blk_drew ?_ | refine blk_alloc ?_ _); exact BK2158.out⟩, ⟨by repeat (first | (with_reducible first | exact HB.out | apply below_alloc | apply pw_below_drewN | apply below_drew1 | refine below_set ?_ GE2158.out) | exact HB.out)⟩⟩
            case round =>
             clear H'
             try clear c1
             try clear p1
             try clear q1
             try clear hx1
             try clear hf1
             try clear c2
             try clear p2
             try clear q2
             try clear hx2
             try clear qi2
             try clear c4
             try clear c5
             try clear c6
             try clear p6
             try clear c7
             try clear c7b0
             try clear c7b1
             try clear c8
             try clear c8b0
             try clear c8b1
             try clear c11
             try clear c14
             try clear c15
             try clear c15b0
             try clear c16
             try clear c16b0
             try clear c17
             try clear c18
             try clear c18b0
             try clear c19
             try clear p19
             try clear q19
             try clear hx19
             try clear hf19
             try clear c20
             try clear p21
             try clear q21
             try clear hx21
             try clear qi21
             try clear c40
             try clear c40b0
             try clear c40b1
             try clear c41
             try clear c41b0
             try clear c41b1
             try clear c42
             try clear c42b0
             try clear c42b1
             try clear c43
             try clear c43b0
             try clear c43b1
             try clear c45
             try clear hcz10_0
             try clear hcz10_1
             try clear hcz10_2
             try clear hcz10_3
             try clear hcz31_0
             try clear hcz31_1
             try clear hcz31_2
             try clear hcz31_3
             try clear hcz35_0
             try clear hcz35_1
             try clear hcz35_2
             try clear hcz35_3
             try clear hcz38_0
             try clear hcz38_1
             try clear hcz38_2
             try clear hcz38_3
             try clear hfz10_0
             try clear hfz10_1
             try clear hfz10_2
             try clear hfz10_3
             try clear hfz31_0
             try clear hfz31_1
             try clear hfz31_2
             try clear hfz31_3
             try clear hfz35_0
             try clear hfz35_1
             try clear hfz35_2
             try clear hfz35_3
             try clear hfz38_0
             try clear hfz38_1
             try clear hfz38_2
             try clear hfz38_3
             try clear hx19_0
             try clear hx2165_0
             try clear hx2168_0
             try clear hx2184_0
             try clear p1
             try clear p19
             try clear p2
             try clear p21
             try clear p2165
             try clear p2168
             try clear p2184
             try clear p6
             try clear q1
             try clear q19
             try clear q2
             try clear q21
             try clear q2165
             try clear q2168
             try clear q2184
             obtain ⟨x14_4, rfl, HA, HK4, HO_5, HO_6, HO_8, HO_10, HO_2159003, BK2158, HB⟩ := hrel
             cases gk with
             | zero => exact absurd HA.out (by simp [racewaylaw6_ResidualBack.l1])
             | succ k4 =>
              (have H := HA.out);(clear HA);(simp only [racewaylaw6_ResidualBack.l1] at H)
              by_cases c46 : x14_4 < (l0.length : Int)
              ·(rw [if_pos c46] at H);(have c46b0 : decide (x14_4 < (l0.length : Int)) = true := decide_eq_true c46);(clear c46);(have HC47 := Aside0.mk H);(clear H)
               go_upto_region 20 with (fail)
               go_cut [137] (fun v137 wc => ∃ (kq : Nat) (x137_46 : Bool), v137 = .bool x137_46 ∧ Aside0 (racewaylaw6_ResidualBack.j4 kq l0 y2159 x6_2 t2172 t2176 x14_4 x137_46 2 1 2 x2159003_2 = some r) ∧ Aside0 (kq ≤ k4) ∧ Aside0 (Kd.R (Kd.int .i64) 2 wc w.heap.size (fun k_ => some k_ ≠ ((.slice Ao36 x6_2.length co36) : Value).ownBlock ∧ some k_ ≠ (v2173 : Value).ownBlock ∧ some k_ ≠ (v2177 : Value).ownBlock) (.slice Ao33 y2159.length co33) y2159) ∧ Aside0 (Kd.R (Kd.int .i64) 2 wc w.heap.size (fun k_ => some k_ ≠ ((.slice Ao33 y2159.length co33) : Value).ownBlock ∧ some k_ ≠ (v2173 : Value).ownBlock ∧ some k_ ≠ (v2177 : Value).ownBlock) (.slice Ao36 x6_2.length co36) x6_2) ∧ Aside0 (Kd.R (Kd.int .i64) 2 wc w.heap.size (fun k_ => some k_ ≠ ((.slice Ao33 y2159.length co33) : Value).ownBlock ∧ some k_ ≠ ((.slice Ao36 x6_2.length co36) : Value).ownBlock ∧ some k_ ≠ (v2177 : Value).ownBlock) v2173 t2172) ∧ Aside0 (Kd.R (Kd.int .i64) 2 wc w.heap.size (fun k_ => some k_ ≠ ((.slice Ao33 y2159.length co33) : Value).ownBlock ∧ some k_ ≠ ((.slice Ao36 x6_2.length co36) : Value).ownBlock ∧ some k_ ≠ (v2173 : Value).ownBlock) v2177 t2176) ∧ Aside0 (Kd.R k49 49 wc w.heap.size (fun _ => True) (.slice Ao32 x2159003_2.length co32) x2159003_2) ∧ Aside0 (wc.heap[gb2158]? = some (.cells #[.int .i64 2, .int .i64 1, .int .i64 2, (.slice Ao32 x2159003_2.length co32)] 27 (0, 0))) ∧ Aside0 (Below w.heap.size w wc))
               case first =>
                (have H := HC47.out);(clear HC47);(obtain ⟨ji48, hji48⟩ : ∃ j_ : Int, (wrap64 (2 * x14_4)) = j_ := ⟨_, rfl⟩);(replace H : (if 0 ≤ (ji48) then (if (ji48) < (t2172.length : Int) then (if 0 ≤ x14_4 then (if x14_4 < (x6_2.length : Int) then (if (rd t2172 (ji48)) = (rd x6_2 x14_4) then (if 0 ≤ (wrap64 ((ji48) + 1)) then (if (wrap64 ((ji48) + 1)) < (t2172.length : Int) then (if (rd t2172 (wrap64 ((ji48) + 1))) = 0 then (if (ji48) < (t2176.length : Int) then (if (rd t2176 (ji48)) = 0 then (if (wrap64 ((ji48) + 1)) < (t2176.length : Int) then (racewaylaw6_ResidualBack.j4 k4 l0 y2159 x6_2 t2172 t2176 x14_4 ((rd t2176 (wrap64 ((ji48) + 1))) != (rd x6_2 x14_4)) 2 1 2 x2159003_2) else (none)) else (racewaylaw6_ResidualBack.j4 k4 l0 y2159 x6_2 t2172 t2176 x14_4 true 2 1 2 x2159003_2)) else (none)) else (racewaylaw6_ResidualBack.j4 k4 l0 y2159 x6_2 t2172 t2176 x14_4 true 2 1 2 x2159003_2)) else (none)) else (none)) else (racewaylaw6_ResidualBack.j4 k4 l0 y2159 x6_2 t2172 t2176 x14_4 true 2 1 2 x2159003_2)) else (none)) else (none)) else (none)) else (none)) = some r := by first | (rw [hji48] at H; exact H) | (simp only [hji48] at H ⊢; exact H));(have hji48w : (IntKind.i64.wrap (2 * x14_4)) = ji48 := (i64_w _).trans hji48)
                by_cases c49 : 0 ≤ (ji48)
                ·(rw [if_pos c49] at H);(have c49b0 : decide (0 ≤ (ji48)) = true := decide_eq_true c49);(clear c49);((first | rw [c49b0] | (simp only [i64_w, i32_w]; rw [c49b0]) | skip))
                 by_cases c50 : (ji48) < (t2172.length : Int)
                 ·(rw [if_pos c50] at H);(have c50b0 : decide ((ji48) < (t2172.length : Int)) = true := decide_eq_true c50);(clear c50)
                  by_cases c51 : 0 ≤ x14_4
                  ·(rw [if_pos c51] at H);(have c51b0 : decide (0 ≤ x14_4) = true := decide_eq_true c51);(clear c51)
                   by_cases c52 : x14_4 < (x6_2.length : Int)
                   ·(rw [if_pos c52] at H);(have c52b0 : decide (x14_4 < (x6_2.length : Int)) = true := decide_eq_true c52);(clear c52)
                    by_cases c53 : (rd t2172 (ji48)) = (rd x6_2 x14_4)
                    ·(rw [if_pos c53] at H);(have c53b0 : ((rd t2172 (ji48)) == (rd x6_2 x14_4)) = true := beq_iff_eq.mpr c53);(have c53b1 : ((rd t2172 (ji48)) != (rd x6_2 x14_4)) = false := bne_eq_false_iff_eq.mpr c53);(clear c53);(obtain ⟨ji54, hji54⟩ : ∃ j_ : Int, (wrap64 ((ji48) + 1)) = j_ := ⟨_, rfl⟩);(replace H : (if 0 ≤ (ji54) then (if (ji54) < (t2172.length : Int) then (if (rd t2172 (ji54)) = 0 then (if (ji48) < (t2176.length : Int) then (if (rd t2176 (ji48)) = 0 then (if (ji54) < (t2176.length : Int) then (racewaylaw6_ResidualBack.j4 k4 l0 y2159 x6_2 t2172 t2176 x14_4 ((rd t2176 (ji54)) != (rd x6_2 x14_4)) 2 1 2 x2159003_2) else (none)) else (racewaylaw6_ResidualBack.j4 k4 l0 y2159 x6_2 t2172 t2176 x14_4 true 2 1 2 x2159003_2)) else (none)) else (racewaylaw6_ResidualBack.j4 k4 l0 y2159 x6_2 t2172 t2176 x14_4 true 2 1 2 x2159003_2)) else (none)) else (none)) = some r := by first | (rw [hji54] at H; exact H) | (simp only [hji54] at H ⊢; exact H));(have hji54w : (IntKind.i64.wrap ((ji48) + 1)) = ji54 := (i64_w _).trans hji54)
                     by_cases c55 : 0 ≤ (ji54)
                     ·(rw [if_pos c55] at H);(have c55b0 : decide (0 ≤ (ji54)) = true := decide_eq_true c55);(clear c55)
                      by_cases c56 : (ji54) < (t2172.length : Int)
                      ·(rw [if_pos c56] at H);(have c56b0 : decide ((ji54) < (t2172.length : Int)) = true := decide_eq_true c56);(clear c56)
                       by_cases c57 : (rd t2172 (ji54)) = 0
                       ·(rw [if_pos c57] at H);(have c57b0 : ((rd t2172 (ji54)) == 0) = true := beq_iff_eq.mpr c57);(have c57b1 : ((rd t2172 (ji54)) != 0) = false := bne_eq_false_iff_eq.mpr c57);(clear c57)
                        by_cases c58 : (ji48) < (t2176.length : Int)
                        ·(rw [if_pos c58] at H);(have c58b0 : decide ((ji48) < (t2176.length : Int)) = true := decide_eq_true c58);(clear c58)
                         by_cases c59 : (rd t2176 (ji48)) = 0
                         ·(rw [if_pos c59] at H);(have c59b0 : ((rd t2176 (ji48)) == 0) = true := beq_iff_eq.mpr c59);(have c59b1 : ((rd t2176 (ji48)) != 0) = false := bne_eq_false_iff_eq.mpr c59);(clear c59)
                          by_cases c60 : (ji54) < (t2176.length : Int)
                          ·(rw [if_pos c60] at H);(have c60b0 : decide ((ji54) < (t2176.length : Int)) = true := decide_eq_true c60);(clear c60)
                           as_aux_lemma =>
                            (have H' := Aside0.mk H);(clear H)
                            try go_wp2
                            (have n0_ := Aside0.mk (Kd.R_drew HO_5.out));(have n1_ := Aside0.mk (Kd.R_drew HO_6.out));(have n2_ := Aside0.mk (Kd.R_drew HO_8.out));(have n3_ := Aside0.mk (Kd.R_drew HO_10.out));(have n4_ := Aside0.mk (Kd.R_drew HO_2159003.out));(have n5_ := Aside0.mk (blk_drew BK2158.out));(have n6_ := Aside0.mk (below_drew1 HB.out));(clear HO_5);(clear HO_6);(clear HO_8);(clear HO_10);(clear HO_2159003);(clear BK2158);(clear HB);(have HO_5 := n0_);(have HO_6 := n1_);(have HO_8 := n2_);(have HO_10 := n3_);(have HO_2159003 := n4_);(have BK2158 := n5_);(have HB := n6_);(clear n0_ n1_ n2_ n3_ n4_ n5_ n6_);(obtain ⟨Ao62, co62, eo62⟩ := Kd.R_slice HO_8.out);((first | subst eo62 | (injection eo62 with f1_ f2_ f3_; have f4_ := f1_.symm; have f5_ := f3_.symm; clear f1_ f2_ f3_; subst f4_; subst f5_)));(have p2185 : 0 ≤ ((ji48) : Int) := of_decide_eq_true (by first | (with_reducible assumption) | assumption));(have q2185 : (ji48) < (t2172.length : Int) := of_decide_eq_true (by first | (with_reducible assumption) | assumption));(obtain ⟨ad2185, e2185, hx2185_0⟩ := Kd.at_int (Kd.R_reads' HO_8.out).2.2 (ji48) p2185 q2185);(cases e2185);(replace p2185 := eq_true p2185);(replace q2185 := eq_true q2185);(have p2186 : 0 ≤ (x14_4 : Int) := of_decide_eq_true (by first | (with_reducible assumption) | assumption));(have q2186 : x14_4 < (x6_2.length : Int) := of_decide_eq_true (by first | (with_reducible assumption) | assumption));(obtain ⟨ad2186, e2186, hx2186_0⟩ := Kd.at_int (Kd.R_reads' HO_6.out).2.2 x14_4 p2186 q2186);(cases e2186);(replace p2186 := eq_true p2186);(replace q2186 := eq_true q2186);(have p2187 : 0 ≤ ((ji54) : Int) := of_decide_eq_true (by first | (with_reducible assumption) | assumption));(have q2187 : (ji54) < (t2172.length : Int) := of_decide_eq_true (by first | (with_reducible assumption) | assumption));(obtain ⟨ad2187, e2187, hx2187_0⟩ := Kd.at_int (Kd.R_reads' HO_8.out).2.2 (ji54) p2187 q2187);(obtain rfl : ad2185 = ad2187 := (by injection e2187));(replace p2187 := eq_true p2187);(replace q2187 := eq_true q2187);(obtain ⟨Ao63, co63, eo63⟩ := Kd.R_slice HO_10.out);((first | subst eo63 | (injection eo63 with f1_ f2_ f3_; have f4_ := f1_.symm; have f5_ := f3_.symm; clear f1_ f2_ f3_; subst f4_; subst f5_)));(have p2188 : 0 ≤ ((ji48) : Int) := of_decide_eq_true (by first | (with_reducible assumption) | assumption));(have q2188 : (ji48) < (t2176.length : Int) := of_decide_eq_true (by first | (with_reducible assumption) | assumption));(obtain ⟨ad2188, e2188, hx2188_0⟩ := Kd.at_int (Kd.R_reads' HO_10.out).2.2 (ji48) p2188 q2188);(cases e2188);(replace p2188 := eq_true p2188);(replace q2188 := eq_true q2188);(have p2189 : 0 ≤ ((ji54) : Int) := of_decide_eq_true (by first | (with_reducible assumption) | assumption));(have q2189 : (ji54) < (t2176.length : Int) := of_decide_eq_true (by first | (with_reducible assumption) | assumption));(obtain ⟨ad2189, e2189, hx2189_0⟩ := Kd.at_int (Kd.R_reads' HO_10.out).2.2 (ji54) p2189 q2189);(obtain rfl : ad2188 = ad2189 := (by injection e2189));(replace p2189 := eq_true p2189);(replace q2189 := eq_true q2189);(have p2190 : 0 ≤ (x14_4 : Int) := of_decide_eq_true (by first | (with_reducible assumption) | assumption));(have q2190 : x14_4 < (x6_2.length : Int) := of_decide_eq_true (by first | (with_reducible assumption) | assumption));(obtain ⟨ad2190, e2190, hx2190_0⟩ := Kd.at_int (Kd.R_reads' HO_6.out).2.2 x14_4 p2190 q2190);(obtain rfl : ad2186 = ad2190 := (by injection e2190));(replace p2190 := eq_true p2190);(replace q2190 := eq_true q2190);(refine start_ (n := 40) (S := fun w' => w'.cell? (ad2185.add ((ji48)).toNat) = some (.int .i64 (rd t2172 (ji48))) ∧ w'.cell? (ad2186.add (x14_4).toNat) = some (.int .i64 (rd x6_2 x14_4)) ∧ w'.cell? (ad2185.add ((ji54)).toNat) = some (.int .i64 (rd t2172 (ji54))) ∧ w'.cell? (ad2188.add ((ji48)).toNat) = some (.int .i64 (rd t2176 (ji48))) ∧ w'.cell? (ad2188.add ((ji54)).toNat) = some (.int .i64 (rd t2176 (ji54))) ∧ w'.cell? (ad2186.add (x14_4).toNat) = some (.int .i64 (rd x6_2 x14_4))) (ds := []) m0_ (by kernel_rfl) rfl rfl ⟨hx2185_0, hx2186_0, hx2187_0, hx2188_0, hx2189_0, hx2190_0⟩ (fun hHeld => ?_); refine with_tabW racewaylaw6_ResidualBack.tab20 racewaylaw6_ResidualBack.bits20 (fun HT_ HW_ => ?_));(generalize wr.drew = w61 at HO_5 HO_6 HO_8 HO_10 HO_2159003 BK2158 HB hx2185_0 hx2186_0 hx2187_0 hx2188_0 hx2189_0 hx2190_0 hHeld ⊢);(refine pure_ (i := 0) (N := some 98) (v := ?_) (a' := ?_) m1_ rfl rfl (any_of HT_.out (by kernel_rfl)) (fun _ _ _ h => h) (Or.inl ⟨by rfl, ?_⟩) ?_ ?_)
                            rotate_left
                            ·intro w'
                             go_simp
                             with_reducible rfl
                            rotate_left
                            ·simp only [Act.put, setIfInBounds_toArray, set_cons_zero, set_cons_succ, i64_w, i32_w]
                             rfl
                            refine pure_ (i := 1) (N := some 99) (v := ?_) (a' := ?_) m2_ rfl rfl (any_of HT_.out (by kernel_rfl)) (fun _ _ _ h => h) (Or.inl ⟨by rfl, ?_⟩) ?_ ?_
                            rotate_left
                            ·intro w'
                             go_simp
                             with_reducible rfl
                            rotate_left
                            ·simp only [Act.put, setIfInBounds_toArray, set_cons_zero, set_cons_succ, i64_w, i32_w]
                             rfl
                            refine pure_ (i := 2) (N := some 100) (v := ?_) (a' := ?_) m3_ rfl rfl (any_of HT_.out (by kernel_rfl)) (fun _ _ _ h => h) (Or.inl ⟨by rfl, ?_⟩) ?_ ?_
                            rotate_left
                            ·intro w'
                             go_simp
                             with_reducible rfl
                            rotate_left
                            ·simp only [Act.put, setIfInBounds_toArray, set_cons_zero, set_cons_succ, i64_w, i32_w]
                             rfl
                            refine pure_ (i := 3) (N := some 101) (v := ?_) (a' := ?_) m4_ rfl rfl (any_of HT_.out (by kernel_rfl)) (fun _ _ _ h => h) (Or.inl ⟨by rfl, ?_⟩) ?_ ?_
                            rotate_left
                            ·intro w'
                             go_simp
                             with_reducible rfl
                            rotate_left
                            ·simp only [Act.put, setIfInBounds_toArray, set_cons_zero, set_cons_succ, i64_w, i32_w]
                             rfl
                            refine pure_ (i := 5) (N := some 103) (v := ?_) (a' := ?_) m5_ rfl rfl (any_of HT_.out (by kernel_rfl)) (fun _ _ _ h => h) (Or.inl ⟨by rfl, ?_⟩) ?_ ?_
                            rotate_left
                            ·intro w'
                             go_simp
                             with_reducible rfl
                            rotate_left
                            ·simp only [Act.put, setIfInBounds_toArray, set_cons_zero, set_cons_succ, i64_w, i32_w]
                             rfl
                            refine pure_ (i := 6) (N := some 104) (v := ?_) (a' := ?_) m6_ rfl rfl (any_of HT_.out (by kernel_rfl)) (fun _ _ _ h => h) (Or.inl ⟨by rfl, ?_⟩) ?_ ?_
                            rotate_left
                            ·intro w'
                             go_simp
                             with_reducible rfl
                            rotate_left
                            ·simp only [Act.put, setIfInBounds_toArray, set_cons_zero, set_cons_succ, i64_w, i32_w]
                             rfl
                            refine pure_ (i := 7) (N := some 105) (v := ?_) (a' := ?_) m7_ rfl rfl (any_of HT_.out (by kernel_rfl)) (fun _ _ _ h => h) (Or.inl ⟨by rfl, ?_⟩) ?_ ?_
                            rotate_left
                            ·intro w'
                             go_simp
                             with_reducible rfl
                            rotate_left
                            ·simp only [Act.put, setIfInBounds_toArray, set_cons_zero, set_cons_succ, i64_w, i32_w]
                             rfl
                            refine take_ (i := 4) (N := some 102) (v := ?_) (a' := ?_) m8_ rfl rfl (take_ofW HT_.out HW_.out (by kernel_rfl)) (fun _ _ _ h => h) (Or.inl ⟨by rfl, ?_⟩) hHeld ?_ ?_
                            rotate_left
                            ·rintro w' ⟨s0, s1, s2, s3, s4, s5⟩
                             go_simp
                             with_reducible rfl
                            rotate_left
                            ·simp only [Act.put, setIfInBounds_toArray, set_cons_zero, set_cons_succ, i64_w, i32_w]
                             rfl
                            refine take_ (i := 8) (N := some 106) (v := ?_) (a' := ?_) m9_ rfl rfl (take_ofW HT_.out HW_.out (by kernel_rfl)) (fun _ _ _ h => h) (Or.inl ⟨by rfl, ?_⟩) hHeld ?_ ?_
                            rotate_left
                            ·rintro w' ⟨s0, s1, s2, s3, s4, s5⟩
                             go_simp
                             with_reducible rfl
                            rotate_left
                            ·simp only [Act.put, setIfInBounds_toArray, set_cons_zero, set_cons_succ, i64_w, i32_w]
                             rfl
                            refine pure_ (i := 9) (N := some 107) (v := ?_) (a' := ?_) m10_ rfl rfl (any_of HT_.out (by kernel_rfl)) (fun _ _ _ h => h) (Or.inl ⟨by rfl, ?_⟩) ?_ ?_
                            rotate_left
                            ·intro w'
                             go_simp
                             with_reducible rfl
                            rotate_left
                            ·simp only [Act.put, setIfInBounds_toArray, set_cons_zero, set_cons_succ, i64_w, i32_w]
                             rfl
                            refine pure_ (i := 10) (N := some 108) (v := ?_) (a' := ?_) m11_ rfl rfl (any_of HT_.out (by kernel_rfl)) (fun _ _ _ h => h) (Or.inl ⟨by rfl, ?_⟩) ?_ ?_
                            rotate_left
                            ·intro w'
                             go_simp
                             with_reducible rfl
                            rotate_left
                            ·simp only [Act.put, setIfInBounds_toArray, set_cons_zero, set_cons_succ, i64_w, i32_w]
                             rfl
                            refine pure_ (i := 11) (N := some 109) (v := ?_) (a' := ?_) m12_ rfl rfl (any_of HT_.out (by kernel_rfl)) (fun _ _ _ h => h) (Or.inl ⟨by rfl, ?_⟩) ?_ ?_
                            rotate_left
                            ·intro w'
                             go_simp
                             with_reducible rfl
                            rotate_left
                            ·simp only [Act.put, setIfInBounds_toArray, set_cons_zero, set_cons_succ, i64_w, i32_w]
                             rfl
                            refine pure_ (i := 12) (N := some 110) (v := ?_) (a' := ?_) m13_ rfl rfl (any_of HT_.out (by kernel_rfl)) (fun _ _ _ h => h) (Or.inl ⟨by rfl, ?_⟩) ?_ ?_
                            rotate_left
                            ·intro w'
                             go_simp
                             with_reducible rfl
                            rotate_left
                            ·simp only [Act.put, setIfInBounds_toArray, set_cons_zero, set_cons_succ, i64_w, i32_w]
                             rfl
                            refine pure_ (i := 13) (N := some 111) (v := ?_) (a' := ?_) m14_ rfl rfl (any_of HT_.out (by kernel_rfl)) (fun _ _ _ h => h) (Or.inl ⟨by rfl, ?_⟩) ?_ ?_
                            rotate_left
                            ·intro w'
                             go_simp
                             with_reducible rfl
                            rotate_left
                            ·simp only [Act.put, setIfInBounds_toArray, set_cons_zero, set_cons_succ, i64_w, i32_w]
                             rfl
                            refine pure_ (i := 14) (N := some 112) (v := ?_) (a' := ?_) m15_ rfl rfl (any_of HT_.out (by kernel_rfl)) (fun _ _ _ h => h) (Or.inl ⟨by rfl, ?_⟩) ?_ ?_
                            rotate_left
                            ·intro w'
                             go_simp
                             with_reducible rfl
                            rotate_left
                            ·simp only [Act.put, setIfInBounds_toArray, set_cons_zero, set_cons_succ, i64_w, i32_w]
                             rfl
                            refine pure_ (i := 15) (N := some 113) (v := ?_) (a' := ?_) m16_ rfl rfl (any_of HT_.out (by kernel_rfl)) (fun _ _ _ h => h) (Or.inl ⟨by rfl, ?_⟩) ?_ ?_
                            rotate_left
                            ·intro w'
                             go_simp
                             with_reducible rfl
                            rotate_left
                            ·simp only [Act.put, setIfInBounds_toArray, set_cons_zero, set_cons_succ, i64_w, i32_w]
                             rfl
                            refine take_ (i := 16) (N := some 114) (v := ?_) (a' := ?_) m17_ rfl rfl (take_ofW HT_.out HW_.out (by kernel_rfl)) (fun _ _ _ h => h) (Or.inl ⟨by rfl, ?_⟩) hHeld ?_ ?_
                            rotate_left
                            ·rintro w' ⟨s0, s1, s2, s3, s4, s5⟩
                             go_simp
                             with_reducible rfl
                            rotate_left
                            ·simp only [Act.put, setIfInBounds_toArray, set_cons_zero, set_cons_succ, i64_w, i32_w]
                             rfl
                            refine pure_ (i := 17) (N := some 115) (v := ?_) (a' := ?_) m18_ rfl rfl (any_of HT_.out (by kernel_rfl)) (fun _ _ _ h => h) (Or.inl ⟨by rfl, ?_⟩) ?_ ?_
                            rotate_left
                            ·intro w'
                             go_simp
                             with_reducible rfl
                            rotate_left
                            ·simp only [Act.put, setIfInBounds_toArray, set_cons_zero, set_cons_succ, i64_w, i32_w]
                             rfl
                            refine pure_ (i := 18) (N := some 116) (v := ?_) (a' := ?_) m19_ rfl rfl (any_of HT_.out (by kernel_rfl)) (fun _ _ _ h => h) (Or.inl ⟨by rfl, ?_⟩) ?_ ?_
                            rotate_left
                            ·intro w'
                             go_simp
                             with_reducible rfl
                            rotate_left
                            ·simp only [Act.put, setIfInBounds_toArray, set_cons_zero, set_cons_succ, i64_w, i32_w]
                             rfl
                            refine pure_ (i := 19) (N := some 117) (v := ?_) (a' := ?_) m20_ rfl rfl (any_of HT_.out (by kernel_rfl)) (fun _ _ _ h => h) (Or.inl ⟨by rfl, ?_⟩) ?_ ?_
                            rotate_left
                            ·intro w'
                             go_simp
                             with_reducible rfl
                            rotate_left
                            ·simp only [Act.put, setIfInBounds_toArray, set_cons_zero, set_cons_succ, i64_w, i32_w]
                             rfl
                            refine pure_ (i := 20) (N := some 118) (v := ?_) (a' := ?_) m21_ rfl rfl (any_of HT_.out (by kernel_rfl)) (fun _ _ _ h => h) (Or.inl ⟨by rfl, ?_⟩) ?_ ?_
                            rotate_left
                            ·intro w'
                             go_simp
                             with_reducible rfl
                            rotate_left
                            ·simp only [Act.put, setIfInBounds_toArray, set_cons_zero, set_cons_succ, i64_w, i32_w]
                             rfl
                            refine pure_ (i := 21) (N := some 119) (v := ?_) (a' := ?_) m22_ rfl rfl (any_of HT_.out (by kernel_rfl)) (fun _ _ _ h => h) (Or.inl ⟨by rfl, ?_⟩) ?_ ?_
                            rotate_left
                            ·intro w'
                             go_simp
                             with_reducible rfl
                            rotate_left
                            ·simp only [Act.put, setIfInBounds_toArray, set_cons_zero, set_cons_succ, i64_w, i32_w]
                             rfl
                            refine pure_ (i := 22) (N := some 120) (v := ?_) (a' := ?_) m23_ rfl rfl (any_of HT_.out (by kernel_rfl)) (fun _ _ _ h => h) (Or.inl ⟨by rfl, ?_⟩) ?_ ?_
                            rotate_left
                            ·intro w'
                             go_simp
                             with_reducible rfl
                            rotate_left
                            ·simp only [Act.put, setIfInBounds_toArray, set_cons_zero, set_cons_succ, i64_w, i32_w]
                             rfl
                            refine pure_ (i := 23) (N := some 121) (v := ?_) (a' := ?_) m24_ rfl rfl (any_of HT_.out (by kernel_rfl)) (fun _ _ _ h => h) (Or.inl ⟨by rfl, ?_⟩) ?_ ?_
                            rotate_left
                            ·intro w'
                             go_simp
                             with_reducible rfl
                            rotate_left
                            ·simp only [Act.put, setIfInBounds_toArray, set_cons_zero, set_cons_succ, i64_w, i32_w]
                             rfl
                            refine take_ (i := 24) (N := some 122) (v := ?_) (a' := ?_) m25_ rfl rfl (take_ofW HT_.out HW_.out (by kernel_rfl)) (fun _ _ _ h => h) (Or.inl ⟨by rfl, ?_⟩) hHeld ?_ ?_
                            rotate_left
                            ·rintro w' ⟨s0, s1, s2, s3, s4, s5⟩
                             go_simp
                             with_reducible rfl
                            rotate_left
                            ·simp only [Act.put, setIfInBounds_toArray, set_cons_zero, set_cons_succ, i64_w, i32_w]
                             rfl
                            refine pure_ (i := 25) (N := some 123) (v := ?_) (a' := ?_) m26_ rfl rfl (any_of HT_.out (by kernel_rfl)) (fun _ _ _ h => h) (Or.inl ⟨by rfl, ?_⟩) ?_ ?_
                            rotate_left
                            ·intro w'
                             go_simp
                             with_reducible rfl
                            rotate_left
                            ·simp only [Act.put, setIfInBounds_toArray, set_cons_zero, set_cons_succ, i64_w, i32_w]
                             rfl
                            refine pure_ (i := 26) (N := some 124) (v := ?_) (a' := ?_) m27_ rfl rfl (any_of HT_.out (by kernel_rfl)) (fun _ _ _ h => h) (Or.inl ⟨by rfl, ?_⟩) ?_ ?_
                            rotate_left
                            ·intro w'
                             go_simp
                             with_reducible rfl
                            rotate_left
                            ·simp only [Act.put, setIfInBounds_toArray, set_cons_zero, set_cons_succ, i64_w, i32_w]
                             rfl
                            refine pure_ (i := 27) (N := some 125) (v := ?_) (a' := ?_) m28_ rfl rfl (any_of HT_.out (by kernel_rfl)) (fun _ _ _ h => h) (Or.inl ⟨by rfl, ?_⟩) ?_ ?_
                            rotate_left
                            ·intro w'
                             go_simp
                             with_reducible rfl
                            rotate_left
                            ·simp only [Act.put, setIfInBounds_toArray, set_cons_zero, set_cons_succ, i64_w, i32_w]
                             rfl
                            refine pure_ (i := 28) (N := some 126) (v := ?_) (a' := ?_) m29_ rfl rfl (any_of HT_.out (by kernel_rfl)) (fun _ _ _ h => h) (Or.inl ⟨by rfl, ?_⟩) ?_ ?_
                            rotate_left
                            ·intro w'
                             go_simp
                             with_reducible rfl
                            rotate_left
                            ·simp only [Act.put, setIfInBounds_toArray, set_cons_zero, set_cons_succ, i64_w, i32_w]
                             rfl
                            refine pure_ (i := 29) (N := some 127) (v := ?_) (a' := ?_) m30_ rfl rfl (any_of HT_.out (by kernel_rfl)) (fun _ _ _ h => h) (Or.inl ⟨by rfl, ?_⟩) ?_ ?_
                            rotate_left
                            ·intro w'
                             go_simp
                             with_reducible rfl
                            rotate_left
                            ·simp only [Act.put, setIfInBounds_toArray, set_cons_zero, set_cons_succ, i64_w, i32_w]
                             rfl
                            refine pure_ (i := 30) (N := some 128) (v := ?_) (a' := ?_) m31_ rfl rfl (any_of HT_.out (by kernel_rfl)) (fun _ _ _ h => h) (Or.inl ⟨by rfl, ?_⟩) ?_ ?_
                            rotate_left
                            ·intro w'
                             go_simp
                             with_reducible rfl
                            rotate_left
                            ·simp only [Act.put, setIfInBounds_toArray, set_cons_zero, set_cons_succ, i64_w, i32_w]
                             rfl
                            refine pure_ (i := 31) (N := some 129) (v := ?_) (a' := ?_) m32_ rfl rfl (any_of HT_.out (by kernel_rfl)) (fun _ _ _ h => h) (Or.inl ⟨by rfl, ?_⟩) ?_ ?_
                            rotate_left
                            ·intro w'
                             go_simp
                             with_reducible rfl
                            rotate_left
                            ·simp only [Act.put, setIfInBounds_toArray, set_cons_zero, set_cons_succ, i64_w, i32_w]
                             rfl
                            refine pure_ (i := 32) (N := some 130) (v := ?_) (a' := ?_) m33_ rfl rfl (any_of HT_.out (by kernel_rfl)) (fun _ _ _ h => h) (Or.inl ⟨by rfl, ?_⟩) ?_ ?_
                            rotate_left
                            ·intro w'
                             go_simp
                             with_reducible rfl
                            rotate_left
                            ·simp only [Act.put, setIfInBounds_toArray, set_cons_zero, set_cons_succ, i64_w, i32_w]
                             rfl
                            refine pure_ (i := 34) (N := some 132) (v := ?_) (a' := ?_) #[true, true, true, true, true, true, true, true, true, true, true, true, true, true, true, true, true, true, true, true, true, true, true, true, true, true, true, true, true, true, true, true, true, false, true, false, false, false, false, false] rfl rfl (any_of HT_.out (by kernel_rfl)) (fun _ _ _ h => h) (Or.inl ⟨by rfl, ?_⟩) ?_ ?_
                            rotate_left
                            ·intro w'
                             go_simp
                             with_reducible rfl
                            rotate_left
                            ·simp only [Act.put, setIfInBounds_toArray, set_cons_zero, set_cons_succ, i64_w, i32_w]
                             rfl
                            refine pure_ (i := 35) (N := some 133) (v := ?_) (a' := ?_) #[true, true, true, true, true, true, true, true, true, true, true, true, true, true, true, true, true, true, true, true, true, true, true, true, true, true, true, true, true, true, true, true, true, false, true, true, false, false, false, false] rfl rfl (any_of HT_.out (by kernel_rfl)) (fun _ _ _ h => h) (Or.inl ⟨by rfl, ?_⟩) ?_ ?_
                            rotate_left
                            ·intro w'
                             go_simp
                             with_reducible rfl
                            rotate_left
                            ·simp only [Act.put, setIfInBounds_toArray, set_cons_zero, set_cons_succ, i64_w, i32_w]
                             rfl
                            refine pure_ (i := 36) (N := some 134) (v := ?_) (a' := ?_) #[true, true, true, true, true, true, true, true, true, true, true, true, true, true, true, true, true, true, true, true, true, true, true, true, true, true, true, true, true, true, true, true, true, false, true, true, true, false, false, false] rfl rfl (any_of HT_.out (by kernel_rfl)) (fun _ _ _ h => h) (Or.inl ⟨by rfl, ?_⟩) ?_ ?_
                            rotate_left
                            ·intro w'
                             go_simp
                             with_reducible rfl
                            rotate_left
                            ·simp only [Act.put, setIfInBounds_toArray, set_cons_zero, set_cons_succ, i64_w, i32_w]
                             rfl
                            refine take_ (i := 33) (N := some 131) (v := ?_) (a' := ?_) m34_ rfl rfl (take_ofW HT_.out HW_.out (by kernel_rfl)) (fun _ _ _ h => h) (Or.inl ⟨by rfl, ?_⟩) hHeld ?_ ?_
                            rotate_left
                            ·rintro w' ⟨s0, s1, s2, s3, s4, s5⟩
                             go_simp
                             with_reducible rfl
                            rotate_left
                            ·simp only [Act.put, setIfInBounds_toArray, set_cons_zero, set_cons_succ, i64_w, i32_w]
                             rfl
                            refine take_ (i := 37) (N := some 135) (v := ?_) (a' := ?_) m35_ rfl rfl (take_ofW HT_.out HW_.out (by kernel_rfl)) (fun _ _ _ h => h) (Or.inl ⟨by rfl, ?_⟩) hHeld ?_ ?_
                            rotate_left
                            ·rintro w' ⟨s0, s1, s2, s3, s4, s5⟩
                             go_simp
                             with_reducible rfl
                            rotate_left
                            ·simp only [Act.put, setIfInBounds_toArray, set_cons_zero, set_cons_succ, i64_w, i32_w]
                             rfl
                            refine pure_ (i := 38) (N := some 136) (v := ?_) (a' := ?_) m36_ rfl rfl (any_of HT_.out (by kernel_rfl)) (fun _ _ _ h => h) (Or.inl ⟨by rfl, ?_⟩) ?_ ?_
                            rotate_left
                            ·intro w'
                             go_simp
                             with_reducible rfl
                            rotate_left
                            ·simp only [Act.put, setIfInBounds_toArray, set_cons_zero, set_cons_succ, i64_w, i32_w]
                             rfl
                            refine pure_ (i := 39) (N := some 137) (v := ?_) (a' := ?_) m37_ rfl rfl (any_of HT_.out (by kernel_rfl)) (fun _ _ _ h => h) (Or.inl ⟨by rfl, ?_⟩) ?_ ?_
                            rotate_left
                            ·intro w'
                             go_simp
                             with_reducible rfl
                            rotate_left
                            ·simp only [Act.put, setIfInBounds_toArray, set_cons_zero, set_cons_succ, i64_w, i32_w]
                             rfl
                            refine done_ (done_of HT_.out (by kernel_rfl)) ?_
                            try go_wp2
                            go_meet
                            case rel => exact ⟨_, (((rd t2176 (ji54)) != (rd x6_2 x14_4))), (by first | rfl | (simp; done) | (simp only [← hji54] <;> (first | rfl | simp)) | (simp [*]; done)), H', ⟨by have := HJ2.out; have := HK2.out; have := HJ29.out; have := HK4.out; first | omega | exact Nat.le_refl _⟩, ⟨by (with_reducible repeat first | apply Kd.R_alloc | apply Kd.R_drewN | apply Kd.R_drew); exact HO_5.out⟩, ⟨by (with_reducible repeat first | apply Kd.R_alloc | apply Kd.R_drewN | apply Kd.R_drew); exact HO_6.out⟩, ⟨by (with_reducible repeat first | apply Kd.R_alloc | apply Kd.R_drewN | apply Kd.R_drew); exact HO_8.out⟩, ⟨by (with_reducible repeat first | apply Kd.R_alloc | apply Kd.R_drewN | apply Kd.R_drew); exact HO_10.out⟩, ⟨by (with_reducible repeat first | apply Kd.R_alloc | apply Kd.R_drewN | apply Kd.R_drew); exact HO_2159003.out⟩, ⟨by (with_reducible repeat first | refine blk_drewN ?_ _ | refine blk_drew ?_ | refine blk_alloc ?_ _); exact BK2158.out⟩, ⟨by repeat (first | (with_reducible first | exact HB.out | apply below_alloc | apply pw_below_drewN | apply below_drew1 | refine below_set ?_ GE2158.out) | exact HB.out)⟩⟩
                          ·(rw [if_neg c60] at H);(exact absurd H (by simp))
                         ·(rw [if_neg c59] at H);(have c59b0 : ((rd t2176 (ji48)) == 0) = false := beq_eq_false_iff_ne.mpr c59);(have c59b1 : ((rd t2176 (ji48)) != 0) = true := bne_iff_ne.mpr c59)
                          as_aux_lemma =>
                           (have H' := Aside0.mk H);(clear H)
                           try go_wp2
                           (have n0_ := Aside0.mk (Kd.R_drew HO_5.out));(have n1_ := Aside0.mk (Kd.R_drew HO_6.out));(have n2_ := Aside0.mk (Kd.R_drew HO_8.out));(have n3_ := Aside0.mk (Kd.R_drew HO_10.out));(have n4_ := Aside0.mk (Kd.R_drew HO_2159003.out));(have n5_ := Aside0.mk (blk_drew BK2158.out));(have n6_ := Aside0.mk (below_drew1 HB.out));(clear HO_5);(clear HO_6);(clear HO_8);(clear HO_10);(clear HO_2159003);(clear BK2158);(clear HB);(have HO_5 := n0_);(have HO_6 := n1_);(have HO_8 := n2_);(have HO_10 := n3_);(have HO_2159003 := n4_);(have BK2158 := n5_);(have HB := n6_);(clear n0_ n1_ n2_ n3_ n4_ n5_ n6_);(obtain ⟨Ao65, co65, eo65⟩ := Kd.R_slice HO_8.out);((first | subst eo65 | (injection eo65 with f1_ f2_ f3_; have f4_ := f1_.symm; have f5_ := f3_.symm; clear f1_ f2_ f3_; subst f4_; subst f5_)));(have p2185 : 0 ≤ ((ji48) : Int) := of_decide_eq_true (by first | (with_reducible assumption) | assumption));(have q2185 : (ji48) < (t2172.length : Int) := of_decide_eq_true (by first | (with_reducible assumption) | assumption));(obtain ⟨ad2185, e2185, hx2185_0⟩ := Kd.at_int (Kd.R_reads' HO_8.out).2.2 (ji48) p2185 q2185);(cases e2185);(replace p2185 := eq_true p2185);(replace q2185 := eq_true q2185);(have p2186 : 0 ≤ (x14_4 : Int) := of_decide_eq_true (by first | (with_reducible assumption) | assumption));(have q2186 : x14_4 < (x6_2.length : Int) := of_decide_eq_true (by first | (with_reducible assumption) | assumption));(obtain ⟨ad2186, e2186, hx2186_0⟩ := Kd.at_int (Kd.R_reads' HO_6.out).2.2 x14_4 p2186 q2186);(cases e2186);(replace p2186 := eq_true p2186);(replace q2186 := eq_true q2186);(have p2187 : 0 ≤ ((ji54) : Int) := of_decide_eq_true (by first | (with_reducible assumption) | assumption));(have q2187 : (ji54) < (t2172.length : Int) := of_decide_eq_true (by first | (with_reducible assumption) | assumption));(obtain ⟨ad2187, e2187, hx2187_0⟩ := Kd.at_int (Kd.R_reads' HO_8.out).2.2 (ji54) p2187 q2187);(obtain rfl : ad2185 = ad2187 := (by injection e2187));(replace p2187 := eq_true p2187);(replace q2187 := eq_true q2187);(obtain ⟨Ao66, co66, eo66⟩ := Kd.R_slice HO_10.out);((first | subst eo66 | (injection eo66 with f1_ f2_ f3_; have f4_ := f1_.symm; have f5_ := f3_.symm; clear f1_ f2_ f3_; subst f4_; subst f5_)));(have p2188 : 0 ≤ ((ji48) : Int) := of_decide_eq_true (by first | (with_reducible assumption) | assumption));(have q2188 : (ji48) < (t2176.length : Int) := of_decide_eq_true (by first | (with_reducible assumption) | assumption));(obtain ⟨ad2188, e2188, hx2188_0⟩ := Kd.at_int (Kd.R_reads' HO_10.out).2.2 (ji48) p2188 q2188);(cases e2188);(replace p2188 := eq_true p2188);(replace q2188 := eq_true q2188);(refine start_ (n := 40) (S := fun w' => w'.cell? (ad2185.add ((ji48)).toNat) = some (.int .i64 (rd t2172 (ji48))) ∧ w'.cell? (ad2186.add (x14_4).toNat) = some (.int .i64 (rd x6_2 x14_4)) ∧ w'.cell? (ad2185.add ((ji54)).toNat) = some (.int .i64 (rd t2172 (ji54))) ∧ w'.cell? (ad2188.add ((ji48)).toNat) = some (.int .i64 (rd t2176 (ji48)))) (ds := []) m0_ (by kernel_rfl) rfl rfl ⟨hx2185_0, hx2186_0, hx2187_0, hx2188_0⟩ (fun hHeld => ?_); refine with_tabW racewaylaw6_ResidualBack.tab20 racewaylaw6_ResidualBack.bits20 (fun HT_ HW_ => ?_));(generalize wr.drew = w64 at HO_5 HO_6 HO_8 HO_10 HO_2159003 BK2158 HB hx2185_0 hx2186_0 hx2187_0 hx2188_0 hHeld ⊢);(refine pure_ (i := 0) (N := some 98) (v := ?_) (a' := ?_) m1_ rfl rfl (any_of HT_.out (by kernel_rfl)) (fun _ _ _ h => h) (Or.inl ⟨by rfl, ?_⟩) ?_ ?_)
                           rotate_left
                           ·intro w'
                            go_simp
                            with_reducible rfl
                           rotate_left
                           ·simp only [Act.put, setIfInBounds_toArray, set_cons_zero, set_cons_succ, i64_w, i32_w]
                            rfl
                           refine pure_ (i := 1) (N := some 99) (v := ?_) (a' := ?_) m2_ rfl rfl (any_of HT_.out (by kernel_rfl)) (fun _ _ _ h => h) (Or.inl ⟨by rfl, ?_⟩) ?_ ?_
                           rotate_left
                           ·intro w'
                            go_simp
                            with_reducible rfl
                           rotate_left
                           ·simp only [Act.put, setIfInBounds_toArray, set_cons_zero, set_cons_succ, i64_w, i32_w]
                            rfl
                           refine pure_ (i := 2) (N := some 100) (v := ?_) (a' := ?_) m3_ rfl rfl (any_of HT_.out (by kernel_rfl)) (fun _ _ _ h => h) (Or.inl ⟨by rfl, ?_⟩) ?_ ?_
                           rotate_left
                           ·intro w'
                            go_simp
                            with_reducible rfl
                           rotate_left
                           ·simp only [Act.put, setIfInBounds_toArray, set_cons_zero, set_cons_succ, i64_w, i32_w]
                            rfl
                           refine pure_ (i := 3) (N := some 101) (v := ?_) (a' := ?_) m4_ rfl rfl (any_of HT_.out (by kernel_rfl)) (fun _ _ _ h => h) (Or.inl ⟨by rfl, ?_⟩) ?_ ?_
                           rotate_left
                           ·intro w'
                            go_simp
                            with_reducible rfl
                           rotate_left
                           ·simp only [Act.put, setIfInBounds_toArray, set_cons_zero, set_cons_succ, i64_w, i32_w]
                            rfl
                           refine pure_ (i := 5) (N := some 103) (v := ?_) (a' := ?_) m5_ rfl rfl (any_of HT_.out (by kernel_rfl)) (fun _ _ _ h => h) (Or.inl ⟨by rfl, ?_⟩) ?_ ?_
                           rotate_left
                           ·intro w'
                            go_simp
                            with_reducible rfl
                           rotate_left
                           ·simp only [Act.put, setIfInBounds_toArray, set_cons_zero, set_cons_succ, i64_w, i32_w]
                            rfl
                           refine pure_ (i := 6) (N := some 104) (v := ?_) (a' := ?_) m6_ rfl rfl (any_of HT_.out (by kernel_rfl)) (fun _ _ _ h => h) (Or.inl ⟨by rfl, ?_⟩) ?_ ?_
                           rotate_left
                           ·intro w'
                            go_simp
                            with_reducible rfl
                           rotate_left
                           ·simp only [Act.put, setIfInBounds_toArray, set_cons_zero, set_cons_succ, i64_w, i32_w]
                            rfl
                           refine pure_ (i := 7) (N := some 105) (v := ?_) (a' := ?_) m7_ rfl rfl (any_of HT_.out (by kernel_rfl)) (fun _ _ _ h => h) (Or.inl ⟨by rfl, ?_⟩) ?_ ?_
                           rotate_left
                           ·intro w'
                            go_simp
                            with_reducible rfl
                           rotate_left
                           ·simp only [Act.put, setIfInBounds_toArray, set_cons_zero, set_cons_succ, i64_w, i32_w]
                            rfl
                           refine take_ (i := 4) (N := some 102) (v := ?_) (a' := ?_) m8_ rfl rfl (take_ofW HT_.out HW_.out (by kernel_rfl)) (fun _ _ _ h => h) (Or.inl ⟨by rfl, ?_⟩) hHeld ?_ ?_
                           rotate_left
                           ·rintro w' ⟨s0, s1, s2, s3⟩
                            go_simp
                            with_reducible rfl
                           rotate_left
                           ·simp only [Act.put, setIfInBounds_toArray, set_cons_zero, set_cons_succ, i64_w, i32_w]
                            rfl
                           refine take_ (i := 8) (N := some 106) (v := ?_) (a' := ?_) m9_ rfl rfl (take_ofW HT_.out HW_.out (by kernel_rfl)) (fun _ _ _ h => h) (Or.inl ⟨by rfl, ?_⟩) hHeld ?_ ?_
                           rotate_left
                           ·rintro w' ⟨s0, s1, s2, s3⟩
                            go_simp
                            with_reducible rfl
                           rotate_left
                           ·simp only [Act.put, setIfInBounds_toArray, set_cons_zero, set_cons_succ, i64_w, i32_w]
                            rfl
                           refine pure_ (i := 9) (N := some 107) (v := ?_) (a' := ?_) m10_ rfl rfl (any_of HT_.out (by kernel_rfl)) (fun _ _ _ h => h) (Or.inl ⟨by rfl, ?_⟩) ?_ ?_
                           rotate_left
                           ·intro w'
                            go_simp
                            with_reducible rfl
                           rotate_left
                           ·simp only [Act.put, setIfInBounds_toArray, set_cons_zero, set_cons_succ, i64_w, i32_w]
                            rfl
                           refine pure_ (i := 10) (N := some 108) (v := ?_) (a' := ?_) m11_ rfl rfl (any_of HT_.out (by kernel_rfl)) (fun _ _ _ h => h) (Or.inl ⟨by rfl, ?_⟩) ?_ ?_
                           rotate_left
                           ·intro w'
                            go_simp
                            with_reducible rfl
                           rotate_left
                           ·simp only [Act.put, setIfInBounds_toArray, set_cons_zero, set_cons_succ, i64_w, i32_w]
                            rfl
                           refine pure_ (i := 11) (N := some 109) (v := ?_) (a' := ?_) m12_ rfl rfl (any_of HT_.out (by kernel_rfl)) (fun _ _ _ h => h) (Or.inl ⟨by rfl, ?_⟩) ?_ ?_
                           rotate_left
                           ·intro w'
                            go_simp
                            with_reducible rfl
                           rotate_left
                           ·simp only [Act.put, setIfInBounds_toArray, set_cons_zero, set_cons_succ, i64_w, i32_w]
                            rfl
                           refine pure_ (i := 12) (N := some 110) (v := ?_) (a' := ?_) m13_ rfl rfl (any_of HT_.out (by kernel_rfl)) (fun _ _ _ h => h) (Or.inl ⟨by rfl, ?_⟩) ?_ ?_
                           rotate_left
                           ·intro w'
                            go_simp
                            with_reducible rfl
                           rotate_left
                           ·simp only [Act.put, setIfInBounds_toArray, set_cons_zero, set_cons_succ, i64_w, i32_w]
                            rfl
                           refine pure_ (i := 13) (N := some 111) (v := ?_) (a' := ?_) m14_ rfl rfl (any_of HT_.out (by kernel_rfl)) (fun _ _ _ h => h) (Or.inl ⟨by rfl, ?_⟩) ?_ ?_
                           rotate_left
                           ·intro w'
                            go_simp
                            with_reducible rfl
                           rotate_left
                           ·simp only [Act.put, setIfInBounds_toArray, set_cons_zero, set_cons_succ, i64_w, i32_w]
                            rfl
                           refine pure_ (i := 14) (N := some 112) (v := ?_) (a' := ?_) m15_ rfl rfl (any_of HT_.out (by kernel_rfl)) (fun _ _ _ h => h) (Or.inl ⟨by rfl, ?_⟩) ?_ ?_
                           rotate_left
                           ·intro w'
                            go_simp
                            with_reducible rfl
                           rotate_left
                           ·simp only [Act.put, setIfInBounds_toArray, set_cons_zero, set_cons_succ, i64_w, i32_w]
                            rfl
                           refine pure_ (i := 15) (N := some 113) (v := ?_) (a' := ?_) m16_ rfl rfl (any_of HT_.out (by kernel_rfl)) (fun _ _ _ h => h) (Or.inl ⟨by rfl, ?_⟩) ?_ ?_
                           rotate_left
                           ·intro w'
                            go_simp
                            with_reducible rfl
                           rotate_left
                           ·simp only [Act.put, setIfInBounds_toArray, set_cons_zero, set_cons_succ, i64_w, i32_w]
                            rfl
                           refine take_ (i := 16) (N := some 114) (v := ?_) (a' := ?_) m17_ rfl rfl (take_ofW HT_.out HW_.out (by kernel_rfl)) (fun _ _ _ h => h) (Or.inl ⟨by rfl, ?_⟩) hHeld ?_ ?_
                           rotate_left
                           ·rintro w' ⟨s0, s1, s2, s3⟩
                            go_simp
                            with_reducible rfl
                           rotate_left
                           ·simp only [Act.put, setIfInBounds_toArray, set_cons_zero, set_cons_succ, i64_w, i32_w]
                            rfl
                           refine pure_ (i := 17) (N := some 115) (v := ?_) (a' := ?_) m18_ rfl rfl (any_of HT_.out (by kernel_rfl)) (fun _ _ _ h => h) (Or.inl ⟨by rfl, ?_⟩) ?_ ?_
                           rotate_left
                           ·intro w'
                            go_simp
                            with_reducible rfl
                           rotate_left
                           ·simp only [Act.put, setIfInBounds_toArray, set_cons_zero, set_cons_succ, i64_w, i32_w]
                            rfl
                           refine pure_ (i := 18) (N := some 116) (v := ?_) (a' := ?_) m19_ rfl rfl (any_of HT_.out (by kernel_rfl)) (fun _ _ _ h => h) (Or.inl ⟨by rfl, ?_⟩) ?_ ?_
                           rotate_left
                           ·intro w'
                            go_simp
                            with_reducible rfl
                           rotate_left
                           ·simp only [Act.put, setIfInBounds_toArray, set_cons_zero, set_cons_succ, i64_w, i32_w]
                            rfl
                           refine pure_ (i := 19) (N := some 117) (v := ?_) (a' := ?_) m20_ rfl rfl (any_of HT_.out (by kernel_rfl)) (fun _ _ _ h => h) (Or.inl ⟨by rfl, ?_⟩) ?_ ?_
                           rotate_left
                           ·intro w'
                            go_simp
                            with_reducible rfl
                           rotate_left
                           ·simp only [Act.put, setIfInBounds_toArray, set_cons_zero, set_cons_succ, i64_w, i32_w]
                            rfl
                           refine pure_ (i := 20) (N := some 118) (v := ?_) (a' := ?_) m21_ rfl rfl (any_of HT_.out (by kernel_rfl)) (fun _ _ _ h => h) (Or.inl ⟨by rfl, ?_⟩) ?_ ?_
                           rotate_left
                           ·intro w'
                            go_simp
                            with_reducible rfl
                           rotate_left
                           ·simp only [Act.put, setIfInBounds_toArray, set_cons_zero, set_cons_succ, i64_w, i32_w]
                            rfl
                           refine pure_ (i := 21) (N := some 119) (v := ?_) (a' := ?_) m22_ rfl rfl (any_of HT_.out (by kernel_rfl)) (fun _ _ _ h => h) (Or.inl ⟨by rfl, ?_⟩) ?_ ?_
                           rotate_left
                           ·intro w'
                            go_simp
                            with_reducible rfl
                           rotate_left
                           ·simp only [Act.put, setIfInBounds_toArray, set_cons_zero, set_cons_succ, i64_w, i32_w]
                            rfl
                           refine pure_ (i := 22) (N := some 120) (v := ?_) (a' := ?_) m23_ rfl rfl (any_of HT_.out (by kernel_rfl)) (fun _ _ _ h => h) (Or.inl ⟨by rfl, ?_⟩) ?_ ?_
                           rotate_left
                           ·intro w'
                            go_simp
                            with_reducible rfl
                           rotate_left
                           ·simp only [Act.put, setIfInBounds_toArray, set_cons_zero, set_cons_succ, i64_w, i32_w]
                            rfl
                           refine pure_ (i := 23) (N := some 121) (v := ?_) (a' := ?_) m24_ rfl rfl (any_of HT_.out (by kernel_rfl)) (fun _ _ _ h => h) (Or.inl ⟨by rfl, ?_⟩) ?_ ?_
                           rotate_left
                           ·intro w'
                            go_simp
                            with_reducible rfl
                           rotate_left
                           ·simp only [Act.put, setIfInBounds_toArray, set_cons_zero, set_cons_succ, i64_w, i32_w]
                            rfl
                           refine take_ (i := 24) (N := some 122) (v := ?_) (a' := ?_) m25_ rfl rfl (take_ofW HT_.out HW_.out (by kernel_rfl)) (fun _ _ _ h => h) (Or.inl ⟨by rfl, ?_⟩) hHeld ?_ ?_
                           rotate_left
                           ·rintro w' ⟨s0, s1, s2, s3⟩
                            go_simp
                            with_reducible rfl
                           rotate_left
                           ·simp only [Act.put, setIfInBounds_toArray, set_cons_zero, set_cons_succ, i64_w, i32_w]
                            rfl
                           refine pure_ (i := 25) (N := some 123) (v := ?_) (a' := ?_) m26_ rfl rfl (any_of HT_.out (by kernel_rfl)) (fun _ _ _ h => h) (Or.inl ⟨by rfl, ?_⟩) ?_ ?_
                           rotate_left
                           ·intro w'
                            go_simp
                            with_reducible rfl
                           rotate_left
                           ·simp only [Act.put, setIfInBounds_toArray, set_cons_zero, set_cons_succ, i64_w, i32_w]
                            rfl
                           refine pure_ (i := 26) (N := some 124) (v := ?_) (a' := ?_) m27_ rfl rfl (any_of HT_.out (by kernel_rfl)) (fun _ _ _ h => h) (Or.inl ⟨by rfl, ?_⟩) ?_ ?_
                           rotate_left
                           ·intro w'
                            go_simp
                            with_reducible rfl
                           rotate_left
                           ·simp only [Act.put, setIfInBounds_toArray, set_cons_zero, set_cons_succ, i64_w, i32_w]
                            rfl
                           refine pure_ (i := 27) (N := some 125) (v := ?_) (a' := ?_) m28_ rfl rfl (any_of HT_.out (by kernel_rfl)) (fun _ _ _ h => h) (Or.inl ⟨by rfl, ?_⟩) ?_ ?_
                           rotate_left
                           ·intro w'
                            go_simp
                            with_reducible rfl
                           rotate_left
                           ·simp only [Act.put, setIfInBounds_toArray, set_cons_zero, set_cons_succ, i64_w, i32_w]
                            rfl
                           refine pure_ (i := 28) (N := some 126) (v := undef) (a' := ?_) m29_ rfl rfl (any_of HT_.out (by kernel_rfl)) (fun _ _ _ h => h) (Or.inr ⟨by rfl, rfl⟩) ?_ ?_
                           rotate_left
                           ·simp only [Act.put, setIfInBounds_toArray, set_cons_zero, set_cons_succ, i64_w, i32_w]
                            rfl
                           refine pure_ (i := 29) (N := some 127) (v := undef) (a' := ?_) m30_ rfl rfl (any_of HT_.out (by kernel_rfl)) (fun _ _ _ h => h) (Or.inr ⟨by rfl, rfl⟩) ?_ ?_
                           rotate_left
                           ·simp only [Act.put, setIfInBounds_toArray, set_cons_zero, set_cons_succ, i64_w, i32_w]
                            rfl
                           refine pure_ (i := 30) (N := some 128) (v := undef) (a' := ?_) m31_ rfl rfl (any_of HT_.out (by kernel_rfl)) (fun _ _ _ h => h) (Or.inr ⟨by rfl, rfl⟩) ?_ ?_
                           rotate_left
                           ·simp only [Act.put, setIfInBounds_toArray, set_cons_zero, set_cons_succ, i64_w, i32_w]
                            rfl
                           refine pure_ (i := 31) (N := some 129) (v := undef) (a' := ?_) m32_ rfl rfl (any_of HT_.out (by kernel_rfl)) (fun _ _ _ h => h) (Or.inr ⟨by rfl, rfl⟩) ?_ ?_
                           rotate_left
                           ·simp only [Act.put, setIfInBounds_toArray, set_cons_zero, set_cons_succ, i64_w, i32_w]
                            rfl
                           refine pure_ (i := 32) (N := some 130) (v := undef) (a' := ?_) m33_ rfl rfl (any_of HT_.out (by kernel_rfl)) (fun _ _ _ h => h) (Or.inr ⟨by rfl, rfl⟩) ?_ ?_
                           rotate_left
                           ·simp only [Act.put, setIfInBounds_toArray, set_cons_zero, set_cons_succ, i64_w, i32_w]
                            rfl
                           refine pure_ (i := 33) (N := some 131) (v := undef) (a' := ?_) m38_ rfl rfl (any_of HT_.out (by kernel_rfl)) (fun _ _ _ h => h) (Or.inr ⟨by rfl, rfl⟩) ?_ ?_
                           rotate_left
                           ·simp only [Act.put, setIfInBounds_toArray, set_cons_zero, set_cons_succ, i64_w, i32_w]
                            rfl
                           refine pure_ (i := 34) (N := some 132) (v := undef) (a' := ?_) m39_ rfl rfl (any_of HT_.out (by kernel_rfl)) (fun _ _ _ h => h) (Or.inr ⟨by rfl, rfl⟩) ?_ ?_
                           rotate_left
                           ·simp only [Act.put, setIfInBounds_toArray, set_cons_zero, set_cons_succ, i64_w, i32_w]
                            rfl
                           refine pure_ (i := 35) (N := some 133) (v := undef) (a' := ?_) m40_ rfl rfl (any_of HT_.out (by kernel_rfl)) (fun _ _ _ h => h) (Or.inr ⟨by rfl, rfl⟩) ?_ ?_
                           rotate_left
                           ·simp only [Act.put, setIfInBounds_toArray, set_cons_zero, set_cons_succ, i64_w, i32_w]
                            rfl
                           refine pure_ (i := 36) (N := some 134) (v := undef) (a' := ?_) m34_ rfl rfl (any_of HT_.out (by kernel_rfl)) (fun _ _ _ h => h) (Or.inr ⟨by rfl, rfl⟩) ?_ ?_
                           rotate_left
                           ·simp only [Act.put, setIfInBounds_toArray, set_cons_zero, set_cons_succ, i64_w, i32_w]
                            rfl
                           refine pure_ (i := 37) (N := some 135) (v := undef) (a' := ?_) m35_ rfl rfl (any_of HT_.out (by kernel_rfl)) (fun _ _ _ h => h) (Or.inr ⟨by rfl, rfl⟩) ?_ ?_
                           rotate_left
                           ·simp only [Act.put, setIfInBounds_toArray, set_cons_zero, set_cons_succ, i64_w, i32_w]
                            rfl
                           refine pure_ (i := 38) (N := some 136) (v := undef) (a' := ?_) m36_ rfl rfl (any_of HT_.out (by kernel_rfl)) (fun _ _ _ h => h) (Or.inr ⟨by rfl, rfl⟩) ?_ ?_
                           rotate_left
                           ·simp only [Act.put, setIfInBounds_toArray, set_cons_zero, set_cons_succ, i64_w, i32_w]
                            rfl
                           refine pure_ (i := 39) (N := some 137) (v := ?_) (a' := ?_) m37_ rfl rfl (any_of HT_.out (by kernel_rfl)) (fun _ _ _ h => h) (Or.inl ⟨by rfl, ?_⟩) ?_ ?_
                           rotate_left
                           ·intro w'
                            go_simp
                            with_reducible rfl
                           rotate_left
                           ·simp only [Act.put, setIfInBounds_toArray, set_cons_zero, set_cons_succ, i64_w, i32_w]
                            rfl
                           refine done_ (done_of HT_.out (by kernel_rfl)) ?_
                           try go_wp2
                           go_meet
                           case rel => exact ⟨_, (true), (by first | rfl | (simp; done) | (simp [*]; done)), H', ⟨by have := HJ2.out; have := HK2.out; have := HJ29.out; have := HK4.out; first | omega | exact Nat.le_refl _⟩, ⟨by (with_reducible repeat first | apply Kd.R_alloc | apply Kd.R_drewN | apply Kd.R_drew); exact HO_5.out⟩, ⟨by (with_reducible repeat first | apply Kd.R_alloc | apply Kd.R_drewN | apply Kd.R_drew); exact HO_6.out⟩, ⟨by (with_reducible repeat first | apply Kd.R_alloc | apply Kd.R_drewN | apply Kd.R_drew); exact HO_8.out⟩, ⟨by (with_reducible repeat first | apply Kd.R_alloc | apply Kd.R_drewN | apply Kd.R_drew); exact HO_10.out⟩, ⟨by (with_reducible repeat first | apply Kd.R_alloc | apply Kd.R_drewN | apply Kd.R_drew); exact HO_2159003.out⟩, ⟨by (with_reducible repeat first | refine blk_drewN ?_ _ | refine blk_drew ?_ | refine blk_alloc ?_ _); exact BK2158.out⟩, ⟨by repeat (first | (with_reducible first | exact HB.out | apply below_alloc | apply pw_below_drewN | apply below_drew1 | refine below_set ?_ GE2158.out) | exact HB.out)⟩⟩
                        ·(rw [if_neg c58] at H);(exact absurd H (by simp))
                       ·(rw [if_neg c57] at H);(have c57b0 : ((rd t2172 (ji54)) == 0) = false := beq_eq_false_iff_ne.mpr c57);(have c57b1 : ((rd t2172 (ji54)) != 0) = true := bne_iff_ne.mpr c57)
                        as_aux_lemma =>
                         (have H' := Aside0.mk H);(clear H)
                         try go_wp2
                         (have n0_ := Aside0.mk (Kd.R_drew HO_5.out));(have n1_ := Aside0.mk (Kd.R_drew HO_6.out));(have n2_ := Aside0.mk (Kd.R_drew HO_8.out));(have n3_ := Aside0.mk (Kd.R_drew HO_10.out));(have n4_ := Aside0.mk (Kd.R_drew HO_2159003.out));(have n5_ := Aside0.mk (blk_drew BK2158.out));(have n6_ := Aside0.mk (below_drew1 HB.out));(clear HO_5);(clear HO_6);(clear HO_8);(clear HO_10);(clear HO_2159003);(clear BK2158);(clear HB);(have HO_5 := n0_);(have HO_6 := n1_);(have HO_8 := n2_);(have HO_10 := n3_);(have HO_2159003 := n4_);(have BK2158 := n5_);(have HB := n6_);(clear n0_ n1_ n2_ n3_ n4_ n5_ n6_);(obtain ⟨Ao68, co68, eo68⟩ := Kd.R_slice HO_8.out);((first | subst eo68 | (injection eo68 with f1_ f2_ f3_; have f4_ := f1_.symm; have f5_ := f3_.symm; clear f1_ f2_ f3_; subst f4_; subst f5_)));(have p2185 : 0 ≤ ((ji48) : Int) := of_decide_eq_true (by first | (with_reducible assumption) | assumption));(have q2185 : (ji48) < (t2172.length : Int) := of_decide_eq_true (by first | (with_reducible assumption) | assumption));(obtain ⟨ad2185, e2185, hx2185_0⟩ := Kd.at_int (Kd.R_reads' HO_8.out).2.2 (ji48) p2185 q2185);(cases e2185);(replace p2185 := eq_true p2185);(replace q2185 := eq_true q2185);(have p2186 : 0 ≤ (x14_4 : Int) := of_decide_eq_true (by first | (with_reducible assumption) | assumption));(have q2186 : x14_4 < (x6_2.length : Int) := of_decide_eq_true (by first | (with_reducible assumption) | assumption));(obtain ⟨ad2186, e2186, hx2186_0⟩ := Kd.at_int (Kd.R_reads' HO_6.out).2.2 x14_4 p2186 q2186);(cases e2186);(replace p2186 := eq_true p2186);(replace q2186 := eq_true q2186);(have p2187 : 0 ≤ ((ji54) : Int) := of_decide_eq_true (by first | (with_reducible assumption) | assumption));(have q2187 : (ji54) < (t2172.length : Int) := of_decide_eq_true (by first | (with_reducible assumption) | assumption));(obtain ⟨ad2187, e2187, hx2187_0⟩ := Kd.at_int (Kd.R_reads' HO_8.out).2.2 (ji54) p2187 q2187);(obtain rfl : ad2185 = ad2187 := (by injection e2187));(replace p2187 := eq_true p2187);(replace q2187 := eq_true q2187);(refine start_ (n := 40) (S := fun w' => w'.cell? (ad2185.add ((ji48)).toNat) = some (.int .i64 (rd t2172 (ji48))) ∧ w'.cell? (ad2186.add (x14_4).toNat) = some (.int .i64 (rd x6_2 x14_4)) ∧ w'.cell? (ad2185.add ((ji54)).toNat) = some (.int .i64 (rd t2172 (ji54)))) (ds := []) m0_ (by kernel_rfl) rfl rfl ⟨hx2185_0, hx2186_0, hx2187_0⟩ (fun hHeld => ?_); refine with_tabW racewaylaw6_ResidualBack.tab20 racewaylaw6_ResidualBack.bits20 (fun HT_ HW_ => ?_));(generalize wr.drew = w67 at HO_5 HO_6 HO_8 HO_10 HO_2159003 BK2158 HB hx2185_0 hx2186_0 hx2187_0 hHeld ⊢);(refine pure_ (i := 0) (N := some 98) (v := ?_) (a' := ?_) m1_ rfl rfl (any_of HT_.out (by kernel_rfl)) (fun _ _ _ h => h) (Or.inl ⟨by rfl, ?_⟩) ?_ ?_)
                         rotate_left
                         ·intro w'
                          go_simp
                          with_reducible rfl
                         rotate_left
                         ·simp only [Act.put, setIfInBounds_toArray, set_cons_zero, set_cons_succ, i64_w, i32_w]
                          rfl
                         refine pure_ (i := 1) (N := some 99) (v := ?_) (a' := ?_) m2_ rfl rfl (any_of HT_.out (by kernel_rfl)) (fun _ _ _ h => h) (Or.inl ⟨by rfl, ?_⟩) ?_ ?_
                         rotate_left
                         ·intro w'
                          go_simp
                          with_reducible rfl
                         rotate_left
                         ·simp only [Act.put, setIfInBounds_toArray, set_cons_zero, set_cons_succ, i64_w, i32_w]
                          rfl
                         refine pure_ (i := 2) (N := some 100) (v := ?_) (a' := ?_) m3_ rfl rfl (any_of HT_.out (by kernel_rfl)) (fun _ _ _ h => h) (Or.inl ⟨by rfl, ?_⟩) ?_ ?_
                         rotate_left
                         ·intro w'
                          go_simp
                          with_reducible rfl
                         rotate_left
                         ·simp only [Act.put, setIfInBounds_toArray, set_cons_zero, set_cons_succ, i64_w, i32_w]
                          rfl
                         refine pure_ (i := 3) (N := some 101) (v := ?_) (a' := ?_) m4_ rfl rfl (any_of HT_.out (by kernel_rfl)) (fun _ _ _ h => h) (Or.inl ⟨by rfl, ?_⟩) ?_ ?_
                         rotate_left
                         ·intro w'
                          go_simp
                          with_reducible rfl
                         rotate_left
                         ·simp only [Act.put, setIfInBounds_toArray, set_cons_zero, set_cons_succ, i64_w, i32_w]
                          rfl
                         refine pure_ (i := 5) (N := some 103) (v := ?_) (a' := ?_) m5_ rfl rfl (any_of HT_.out (by kernel_rfl)) (fun _ _ _ h => h) (Or.inl ⟨by rfl, ?_⟩) ?_ ?_
                         rotate_left
                         ·intro w'
                          go_simp
                          with_reducible rfl
                         rotate_left
                         ·simp only [Act.put, setIfInBounds_toArray, set_cons_zero, set_cons_succ, i64_w, i32_w]
                          rfl
                         refine pure_ (i := 6) (N := some 104) (v := ?_) (a' := ?_) m6_ rfl rfl (any_of HT_.out (by kernel_rfl)) (fun _ _ _ h => h) (Or.inl ⟨by rfl, ?_⟩) ?_ ?_
                         rotate_left
                         ·intro w'
                          go_simp
                          with_reducible rfl
                         rotate_left
                         ·simp only [Act.put, setIfInBounds_toArray, set_cons_zero, set_cons_succ, i64_w, i32_w]
                          rfl
                         refine pure_ (i := 7) (N := some 105) (v := ?_) (a' := ?_) m7_ rfl rfl (any_of HT_.out (by kernel_rfl)) (fun _ _ _ h => h) (Or.inl ⟨by rfl, ?_⟩) ?_ ?_
                         rotate_left
                         ·intro w'
                          go_simp
                          with_reducible rfl
                         rotate_left
                         ·simp only [Act.put, setIfInBounds_toArray, set_cons_zero, set_cons_succ, i64_w, i32_w]
                          rfl
                         refine take_ (i := 4) (N := some 102) (v := ?_) (a' := ?_) m8_ rfl rfl (take_ofW HT_.out HW_.out (by kernel_rfl)) (fun _ _ _ h => h) (Or.inl ⟨by rfl, ?_⟩) hHeld ?_ ?_
                         rotate_left
                         ·rintro w' ⟨s0, s1, s2⟩
                          go_simp
                          with_reducible rfl
                         rotate_left
                         ·simp only [Act.put, setIfInBounds_toArray, set_cons_zero, set_cons_succ, i64_w, i32_w]
                          rfl
                         refine take_ (i := 8) (N := some 106) (v := ?_) (a' := ?_) m9_ rfl rfl (take_ofW HT_.out HW_.out (by kernel_rfl)) (fun _ _ _ h => h) (Or.inl ⟨by rfl, ?_⟩) hHeld ?_ ?_
                         rotate_left
                         ·rintro w' ⟨s0, s1, s2⟩
                          go_simp
                          with_reducible rfl
                         rotate_left
                         ·simp only [Act.put, setIfInBounds_toArray, set_cons_zero, set_cons_succ, i64_w, i32_w]
                          rfl
                         refine pure_ (i := 9) (N := some 107) (v := ?_) (a' := ?_) m10_ rfl rfl (any_of HT_.out (by kernel_rfl)) (fun _ _ _ h => h) (Or.inl ⟨by rfl, ?_⟩) ?_ ?_
                         rotate_left
                         ·intro w'
                          go_simp
                          with_reducible rfl
                         rotate_left
                         ·simp only [Act.put, setIfInBounds_toArray, set_cons_zero, set_cons_succ, i64_w, i32_w]
                          rfl
                         refine pure_ (i := 10) (N := some 108) (v := ?_) (a' := ?_) m11_ rfl rfl (any_of HT_.out (by kernel_rfl)) (fun _ _ _ h => h) (Or.inl ⟨by rfl, ?_⟩) ?_ ?_
                         rotate_left
                         ·intro w'
                          go_simp
                          with_reducible rfl
                         rotate_left
                         ·simp only [Act.put, setIfInBounds_toArray, set_cons_zero, set_cons_succ, i64_w, i32_w]
                          rfl
                         refine pure_ (i := 11) (N := some 109) (v := ?_) (a' := ?_) m12_ rfl rfl (any_of HT_.out (by kernel_rfl)) (fun _ _ _ h => h) (Or.inl ⟨by rfl, ?_⟩) ?_ ?_
                         rotate_left
                         ·intro w'
                          go_simp
                          with_reducible rfl
                         rotate_left
                         ·simp only [Act.put, setIfInBounds_toArray, set_cons_zero, set_cons_succ, i64_w, i32_w]
                          rfl
                         refine pure_ (i := 12) (N := some 110) (v := ?_) (a' := ?_) m13_ rfl rfl (any_of HT_.out (by kernel_rfl)) (fun _ _ _ h => h) (Or.inl ⟨by rfl, ?_⟩) ?_ ?_
                         rotate_left
                         ·intro w'
                          go_simp
                          with_reducible rfl
                         rotate_left
                         ·simp only [Act.put, setIfInBounds_toArray, set_cons_zero, set_cons_succ, i64_w, i32_w]
                          rfl
                         refine pure_ (i := 13) (N := some 111) (v := ?_) (a' := ?_) m14_ rfl rfl (any_of HT_.out (by kernel_rfl)) (fun _ _ _ h => h) (Or.inl ⟨by rfl, ?_⟩) ?_ ?_
                         rotate_left
                         ·intro w'
                          go_simp
                          with_reducible rfl
                         rotate_left
                         ·simp only [Act.put, setIfInBounds_toArray, set_cons_zero, set_cons_succ, i64_w, i32_w]
                          rfl
                         refine pure_ (i := 14) (N := some 112) (v := ?_) (a' := ?_) m15_ rfl rfl (any_of HT_.out (by kernel_rfl)) (fun _ _ _ h => h) (Or.inl ⟨by rfl, ?_⟩) ?_ ?_
                         rotate_left
                         ·intro w'
                          go_simp
                          with_reducible rfl
                         rotate_left
                         ·simp only [Act.put, setIfInBounds_toArray, set_cons_zero, set_cons_succ, i64_w, i32_w]
                          rfl
                         refine pure_ (i := 15) (N := some 113) (v := ?_) (a' := ?_) m16_ rfl rfl (any_of HT_.out (by kernel_rfl)) (fun _ _ _ h => h) (Or.inl ⟨by rfl, ?_⟩) ?_ ?_
                         rotate_left
                         ·intro w'
                          go_simp
                          with_reducible rfl
                         rotate_left
                         ·simp only [Act.put, setIfInBounds_toArray, set_cons_zero, set_cons_succ, i64_w, i32_w]
                          rfl
                         refine take_ (i := 16) (N := some 114) (v := ?_) (a' := ?_) m17_ rfl rfl (take_ofW HT_.out HW_.out (by kernel_rfl)) (fun _ _ _ h => h) (Or.inl ⟨by rfl, ?_⟩) hHeld ?_ ?_
                         rotate_left
                         ·rintro w' ⟨s0, s1, s2⟩
                          go_simp
                          with_reducible rfl
                         rotate_left
                         ·simp only [Act.put, setIfInBounds_toArray, set_cons_zero, set_cons_succ, i64_w, i32_w]
                          rfl
                         refine pure_ (i := 17) (N := some 115) (v := ?_) (a' := ?_) m18_ rfl rfl (any_of HT_.out (by kernel_rfl)) (fun _ _ _ h => h) (Or.inl ⟨by rfl, ?_⟩) ?_ ?_
                         rotate_left
                         ·intro w'
                          go_simp
                          with_reducible rfl
                         rotate_left
                         ·simp only [Act.put, setIfInBounds_toArray, set_cons_zero, set_cons_succ, i64_w, i32_w]
                          rfl
                         refine pure_ (i := 18) (N := some 116) (v := ?_) (a' := ?_) m19_ rfl rfl (any_of HT_.out (by kernel_rfl)) (fun _ _ _ h => h) (Or.inl ⟨by rfl, ?_⟩) ?_ ?_
                         rotate_left
                         ·intro w'
                          go_simp
                          with_reducible rfl
                         rotate_left
                         ·simp only [Act.put, setIfInBounds_toArray, set_cons_zero, set_cons_succ, i64_w, i32_w]
                          rfl
                         refine pure_ (i := 19) (N := some 117) (v := ?_) (a' := ?_) m20_ rfl rfl (any_of HT_.out (by kernel_rfl)) (fun _ _ _ h => h) (Or.inl ⟨by rfl, ?_⟩) ?_ ?_
                         rotate_left
                         ·intro w'
                          go_simp
                          with_reducible rfl
                         rotate_left
                         ·simp only [Act.put, setIfInBounds_toArray, set_cons_zero, set_cons_succ, i64_w, i32_w]
                          rfl
                         refine pure_ (i := 20) (N := some 118) (v := undef) (a' := ?_) m21_ rfl rfl (any_of HT_.out (by kernel_rfl)) (fun _ _ _ h => h) (Or.inr ⟨by rfl, rfl⟩) ?_ ?_
                         rotate_left
                         ·simp only [Act.put, setIfInBounds_toArray, set_cons_zero, set_cons_succ, i64_w, i32_w]
                          rfl
                         refine pure_ (i := 21) (N := some 119) (v := undef) (a' := ?_) m22_ rfl rfl (any_of HT_.out (by kernel_rfl)) (fun _ _ _ h => h) (Or.inr ⟨by rfl, rfl⟩) ?_ ?_
                         rotate_left
                         ·simp only [Act.put, setIfInBounds_toArray, set_cons_zero, set_cons_succ, i64_w, i32_w]
                          rfl
                         refine pure_ (i := 22) (N := some 120) (v := undef) (a' := ?_) m23_ rfl rfl (any_of HT_.out (by kernel_rfl)) (fun _ _ _ h => h) (Or.inr ⟨by rfl, rfl⟩) ?_ ?_
                         rotate_left
                         ·simp only [Act.put, setIfInBounds_toArray, set_cons_zero, set_cons_succ, i64_w, i32_w]
                          rfl
                         refine pure_ (i := 23) (N := some 121) (v := undef) (a' := ?_) m24_ rfl rfl (any_of HT_.out (by kernel_rfl)) (fun _ _ _ h => h) (Or.inr ⟨by rfl, rfl⟩) ?_ ?_
                         rotate_left
                         ·simp only [Act.put, setIfInBounds_toArray, set_cons_zero, set_cons_succ, i64_w, i32_w]
                          rfl
                         refine pure_ (i := 24) (N := some 122) (v := undef) (a' := ?_) m25_ rfl rfl (any_of HT_.out (by kernel_rfl)) (fun _ _ _ h => h) (Or.inr ⟨by rfl, rfl⟩) ?_ ?_
                         rotate_left
                         ·simp only [Act.put, setIfInBounds_toArray, set_cons_zero, set_cons_succ, i64_w, i32_w]
                          rfl
                         refine pure_ (i := 25) (N := some 123) (v := undef) (a' := ?_) m26_ rfl rfl (any_of HT_.out (by kernel_rfl)) (fun _ _ _ h => h) (Or.inr ⟨by rfl, rfl⟩) ?_ ?_
                         rotate_left
                         ·simp only [Act.put, setIfInBounds_toArray, set_cons_zero, set_cons_succ, i64_w, i32_w]
                          rfl
                         refine pure_ (i := 26) (N := some 124) (v := ?_) (a' := ?_) m27_ rfl rfl (any_of HT_.out (by kernel_rfl)) (fun _ _ _ h => h) (Or.inl ⟨by rfl, ?_⟩) ?_ ?_
                         rotate_left
                         ·intro w'
                          go_simp
                          with_reducible rfl
                         rotate_left
                         ·simp only [Act.put, setIfInBounds_toArray, set_cons_zero, set_cons_succ, i64_w, i32_w]
                          rfl
                         refine pure_ (i := 27) (N := some 125) (v := ?_) (a' := ?_) m28_ rfl rfl (any_of HT_.out (by kernel_rfl)) (fun _ _ _ h => h) (Or.inl ⟨by rfl, ?_⟩) ?_ ?_
                         rotate_left
                         ·intro w'
                          go_simp
                          with_reducible rfl
                         rotate_left
                         ·simp only [Act.put, setIfInBounds_toArray, set_cons_zero, set_cons_succ, i64_w, i32_w]
                          rfl
                         refine pure_ (i := 28) (N := some 126) (v := undef) (a' := ?_) m29_ rfl rfl (any_of HT_.out (by kernel_rfl)) (fun _ _ _ h => h) (Or.inr ⟨by rfl, rfl⟩) ?_ ?_
                         rotate_left
                         ·simp only [Act.put, setIfInBounds_toArray, set_cons_zero, set_cons_succ, i64_w, i32_w]
                          rfl
                         refine pure_ (i := 29) (N := some 127) (v := undef) (a' := ?_) m30_ rfl rfl (any_of HT_.out (by kernel_rfl)) (fun _ _ _ h => h) (Or.inr ⟨by rfl, rfl⟩) ?_ ?_
                         rotate_left
                         ·simp only [Act.put, setIfInBounds_toArray, set_cons_zero, set_cons_succ, i64_w, i32_w]
                          rfl
                         refine pure_ (i := 30) (N := some 128) (v := undef) (a' := ?_) m31_ rfl rfl (any_of HT_.out (by kernel_rfl)) (fun _ _ _ h => h) (Or.inr ⟨by rfl, rfl⟩) ?_ ?_
                         rotate_left
                         ·simp only [Act.put, setIfInBounds_toArray, set_cons_zero, set_cons_succ, i64_w, i32_w]
                          rfl
                         refine pure_ (i := 31) (N := some 129) (v := undef) (a' := ?_) m32_ rfl rfl (any_of HT_.out (by kernel_rfl)) (fun _ _ _ h => h) (Or.inr ⟨by rfl, rfl⟩) ?_ ?_
                         rotate_left
                         ·simp only [Act.put, setIfInBounds_toArray, set_cons_zero, set_cons_succ, i64_w, i32_w]
                          rfl
                         refine pure_ (i := 32) (N := some 130) (v := undef) (a' := ?_) m33_ rfl rfl (any_of HT_.out (by kernel_rfl)) (fun _ _ _ h => h) (Or.inr ⟨by rfl, rfl⟩) ?_ ?_
                         rotate_left
                         ·simp only [Act.put, setIfInBounds_toArray, set_cons_zero, set_cons_succ, i64_w, i32_w]
                          rfl
                         refine pure_ (i := 33) (N := some 131) (v := undef) (a' := ?_) m38_ rfl rfl (any_of HT_.out (by kernel_rfl)) (fun _ _ _ h => h) (Or.inr ⟨by rfl, rfl⟩) ?_ ?_
                         rotate_left
                         ·simp only [Act.put, setIfInBounds_toArray, set_cons_zero, set_cons_succ, i64_w, i32_w]
                          rfl
                         refine pure_ (i := 34) (N := some 132) (v := undef) (a' := ?_) m39_ rfl rfl (any_of HT_.out (by kernel_rfl)) (fun _ _ _ h => h) (Or.inr ⟨by rfl, rfl⟩) ?_ ?_
                         rotate_left
                         ·simp only [Act.put, setIfInBounds_toArray, set_cons_zero, set_cons_succ, i64_w, i32_w]
                          rfl
                         refine pure_ (i := 35) (N := some 133) (v := undef) (a' := ?_) m40_ rfl rfl (any_of HT_.out (by kernel_rfl)) (fun _ _ _ h => h) (Or.inr ⟨by rfl, rfl⟩) ?_ ?_
                         rotate_left
                         ·simp only [Act.put, setIfInBounds_toArray, set_cons_zero, set_cons_succ, i64_w, i32_w]
                          rfl
                         refine pure_ (i := 36) (N := some 134) (v := undef) (a' := ?_) m34_ rfl rfl (any_of HT_.out (by kernel_rfl)) (fun _ _ _ h => h) (Or.inr ⟨by rfl, rfl⟩) ?_ ?_
                         rotate_left
                         ·simp only [Act.put, setIfInBounds_toArray, set_cons_zero, set_cons_succ, i64_w, i32_w]
                          rfl
                         refine pure_ (i := 37) (N := some 135) (v := undef) (a' := ?_) m35_ rfl rfl (any_of HT_.out (by kernel_rfl)) (fun _ _ _ h => h) (Or.inr ⟨by rfl, rfl⟩) ?_ ?_
                         rotate_left
                         ·simp only [Act.put, setIfInBounds_toArray, set_cons_zero, set_cons_succ, i64_w, i32_w]
                          rfl
                         refine pure_ (i := 38) (N := some 136) (v := undef) (a' := ?_) m36_ rfl rfl (any_of HT_.out (by kernel_rfl)) (fun _ _ _ h => h) (Or.inr ⟨by rfl, rfl⟩) ?_ ?_
                         rotate_left
                         ·simp only [Act.put, setIfInBounds_toArray, set_cons_zero, set_cons_succ, i64_w, i32_w]
                          rfl
                         refine pure_ (i := 39) (N := some 137) (v := ?_) (a' := ?_) m37_ rfl rfl (any_of HT_.out (by kernel_rfl)) (fun _ _ _ h => h) (Or.inl ⟨by rfl, ?_⟩) ?_ ?_
                         rotate_left
                         ·intro w'
                          go_simp
                          with_reducible rfl
                         rotate_left
                         ·simp only [Act.put, setIfInBounds_toArray, set_cons_zero, set_cons_succ, i64_w, i32_w]
                          rfl
                         refine done_ (done_of HT_.out (by kernel_rfl)) ?_
                         try go_wp2
                         go_meet
                         case rel => exact ⟨_, (true), (by first | rfl | (simp; done) | (simp [*]; done)), H', ⟨by have := HJ2.out; have := HK2.out; have := HJ29.out; have := HK4.out; first | omega | exact Nat.le_refl _⟩, ⟨by (with_reducible repeat first | apply Kd.R_alloc | apply Kd.R_drewN | apply Kd.R_drew); exact HO_5.out⟩, ⟨by (with_reducible repeat first | apply Kd.R_alloc | apply Kd.R_drewN | apply Kd.R_drew); exact HO_6.out⟩, ⟨by (with_reducible repeat first | apply Kd.R_alloc | apply Kd.R_drewN | apply Kd.R_drew); exact HO_8.out⟩, ⟨by (with_reducible repeat first | apply Kd.R_alloc | apply Kd.R_drewN | apply Kd.R_drew); exact HO_10.out⟩, ⟨by (with_reducible repeat first | apply Kd.R_alloc | apply Kd.R_drewN | apply Kd.R_drew); exact HO_2159003.out⟩, ⟨by (with_reducible repeat first | refine blk_drewN ?_ _ | refine blk_drew ?_ | refine blk_alloc ?_ _); exact BK2158.out⟩, ⟨by repeat (first | (with_reducible first | exact HB.out | apply below_alloc | apply pw_below_drewN | apply below_drew1 | refine below_set ?_ GE2158.out) | exact HB.out)⟩⟩
                      ·(rw [if_neg c56] at H);(exact absurd H (by simp))
                     ·(rw [if_neg c55] at H);(exact absurd H (by simp))
                    ·(rw [if_neg c53] at H);(have c53b0 : ((rd t2172 (ji48)) == (rd x6_2 x14_4)) = false := beq_eq_false_iff_ne.mpr c53);(have c53b1 : ((rd t2172 (ji48)) != (rd x6_2 x14_4)) = true := bne_iff_ne.mpr c53)
                     as_aux_lemma =>
                      (have H' := Aside0.mk H);(clear H)
                      try go_wp2
                      (have n0_ := Aside0.mk (Kd.R_drew HO_5.out));(have n1_ := Aside0.mk (Kd.R_drew HO_6.out));(have n2_ := Aside0.mk (Kd.R_drew HO_8.out));(have n3_ := Aside0.mk (Kd.R_drew HO_10.out));(have n4_ := Aside0.mk (Kd.R_drew HO_2159003.out));(have n5_ := Aside0.mk (blk_drew BK2158.out));(have n6_ := Aside0.mk (below_drew1 HB.out));(clear HO_5);(clear HO_6);(clear HO_8);(clear HO_10);(clear HO_2159003);(clear BK2158);(clear HB);(have HO_5 := n0_);(have HO_6 := n1_);(have HO_8 := n2_);(have HO_10 := n3_);(have HO_2159003 := n4_);(have BK2158 := n5_);(have HB := n6_);(clear n0_ n1_ n2_ n3_ n4_ n5_ n6_);(obtain ⟨Ao70, co70, eo70⟩ := Kd.R_slice HO_8.out);((first | subst eo70 | (injection eo70 with f1_ f2_ f3_; have f4_ := f1_.symm; have f5_ := f3_.symm; clear f1_ f2_ f3_; subst f4_; subst f5_)));(have p2185 : 0 ≤ ((ji48) : Int) := of_decide_eq_true (by first | (with_reducible assumption) | assumption));(have q2185 : (ji48) < (t2172.length : Int) := of_decide_eq_true (by first | (with_reducible assumption) | assumption));(obtain ⟨ad2185, e2185, hx2185_0⟩ := Kd.at_int (Kd.R_reads' HO_8.out).2.2 (ji48) p2185 q2185);(cases e2185);(replace p2185 := eq_true p2185);(replace q2185 := eq_true q2185);(have p2186 : 0 ≤ (x14_4 : Int) := of_decide_eq_true (by first | (with_reducible assumption) | assumption));(have q2186 : x14_4 < (x6_2.length : Int) := of_decide_eq_true (by first | (with_reducible assumption) | assumption));(obtain ⟨ad2186, e2186, hx2186_0⟩ := Kd.at_int (Kd.R_reads' HO_6.out).2.2 x14_4 p2186 q2186);(cases e2186);(replace p2186 := eq_true p2186);(replace q2186 := eq_true q2186);(refine start_ (n := 40) (S := fun w' => w'.cell? (ad2185.add ((ji48)).toNat) = some (.int .i64 (rd t2172 (ji48))) ∧ w'.cell? (ad2186.add (x14_4).toNat) = some (.int .i64 (rd x6_2 x14_4))) (ds := []) m0_ (by kernel_rfl) rfl rfl ⟨hx2185_0, hx2186_0⟩ (fun hHeld => ?_); refine with_tabW racewaylaw6_ResidualBack.tab20 racewaylaw6_ResidualBack.bits20 (fun HT_ HW_ => ?_));(generalize wr.drew = w69 at HO_5 HO_6 HO_8 HO_10 HO_2159003 BK2158 HB hx2185_0 hx2186_0 hHeld ⊢);(refine pure_ (i := 0) (N := some 98) (v := ?_) (a' := ?_) m1_ rfl rfl (any_of HT_.out (by kernel_rfl)) (fun _ _ _ h => h) (Or.inl ⟨by rfl, ?_⟩) ?_ ?_)
                      rotate_left
                      ·intro w'
                       go_simp
                       with_reducible rfl
                      rotate_left
                      ·simp only [Act.put, setIfInBounds_toArray, set_cons_zero, set_cons_succ, i64_w, i32_w]
                       rfl
                      refine pure_ (i := 1) (N := some 99) (v := ?_) (a' := ?_) m2_ rfl rfl (any_of HT_.out (by kernel_rfl)) (fun _ _ _ h => h) (Or.inl ⟨by rfl, ?_⟩) ?_ ?_
                      rotate_left
                      ·intro w'
                       go_simp
                       with_reducible rfl
                      rotate_left
                      ·simp only [Act.put, setIfInBounds_toArray, set_cons_zero, set_cons_succ, i64_w, i32_w]
                       rfl
                      refine pure_ (i := 2) (N := some 100) (v := ?_) (a' := ?_) m3_ rfl rfl (any_of HT_.out (by kernel_rfl)) (fun _ _ _ h => h) (Or.inl ⟨by rfl, ?_⟩) ?_ ?_
                      rotate_left
                      ·intro w'
                       go_simp
                       with_reducible rfl
                      rotate_left
                      ·simp only [Act.put, setIfInBounds_toArray, set_cons_zero, set_cons_succ, i64_w, i32_w]
                       rfl
                      refine pure_ (i := 3) (N := some 101) (v := ?_) (a' := ?_) m4_ rfl rfl (any_of HT_.out (by kernel_rfl)) (fun _ _ _ h => h) (Or.inl ⟨by rfl, ?_⟩) ?_ ?_
                      rotate_left
                      ·intro w'
                       go_simp
                       with_reducible rfl
                      rotate_left
                      ·simp only [Act.put, setIfInBounds_toArray, set_cons_zero, set_cons_succ, i64_w, i32_w]
                       rfl
                      refine pure_ (i := 5) (N := some 103) (v := ?_) (a' := ?_) m5_ rfl rfl (any_of HT_.out (by kernel_rfl)) (fun _ _ _ h => h) (Or.inl ⟨by rfl, ?_⟩) ?_ ?_
                      rotate_left
                      ·intro w'
                       go_simp
                       with_reducible rfl
                      rotate_left
                      ·simp only [Act.put, setIfInBounds_toArray, set_cons_zero, set_cons_succ, i64_w, i32_w]
                       rfl
                      refine pure_ (i := 6) (N := some 104) (v := ?_) (a' := ?_) m6_ rfl rfl (any_of HT_.out (by kernel_rfl)) (fun _ _ _ h => h) (Or.inl ⟨by rfl, ?_⟩) ?_ ?_
                      rotate_left
                      ·intro w'
                       go_simp
                       with_reducible rfl
                      rotate_left
                      ·simp only [Act.put, setIfInBounds_toArray, set_cons_zero, set_cons_succ, i64_w, i32_w]
                       rfl
                      refine pure_ (i := 7) (N := some 105) (v := ?_) (a' := ?_) m7_ rfl rfl (any_of HT_.out (by kernel_rfl)) (fun _ _ _ h => h) (Or.inl ⟨by rfl, ?_⟩) ?_ ?_
                      rotate_left
                      ·intro w'
                       go_simp
                       with_reducible rfl
                      rotate_left
                      ·simp only [Act.put, setIfInBounds_toArray, set_cons_zero, set_cons_succ, i64_w, i32_w]
                       rfl
                      refine take_ (i := 4) (N := some 102) (v := ?_) (a' := ?_) m8_ rfl rfl (take_ofW HT_.out HW_.out (by kernel_rfl)) (fun _ _ _ h => h) (Or.inl ⟨by rfl, ?_⟩) hHeld ?_ ?_
                      rotate_left
                      ·rintro w' ⟨s0, s1⟩
                       go_simp
                       with_reducible rfl
                      rotate_left
                      ·simp only [Act.put, setIfInBounds_toArray, set_cons_zero, set_cons_succ, i64_w, i32_w]
                       rfl
                      refine take_ (i := 8) (N := some 106) (v := ?_) (a' := ?_) m9_ rfl rfl (take_ofW HT_.out HW_.out (by kernel_rfl)) (fun _ _ _ h => h) (Or.inl ⟨by rfl, ?_⟩) hHeld ?_ ?_
                      rotate_left
                      ·rintro w' ⟨s0, s1⟩
                       go_simp
                       with_reducible rfl
                      rotate_left
                      ·simp only [Act.put, setIfInBounds_toArray, set_cons_zero, set_cons_succ, i64_w, i32_w]
                       rfl
                      refine pure_ (i := 9) (N := some 107) (v := ?_) (a' := ?_) m10_ rfl rfl (any_of HT_.out (by kernel_rfl)) (fun _ _ _ h => h) (Or.inl ⟨by rfl, ?_⟩) ?_ ?_
                      rotate_left
                      ·intro w'
                       go_simp
                       with_reducible rfl
                      rotate_left
                      ·simp only [Act.put, setIfInBounds_toArray, set_cons_zero, set_cons_succ, i64_w, i32_w]
                       rfl
                      refine pure_ (i := 10) (N := some 108) (v := ?_) (a' := ?_) m11_ rfl rfl (any_of HT_.out (by kernel_rfl)) (fun _ _ _ h => h) (Or.inl ⟨by rfl, ?_⟩) ?_ ?_
                      rotate_left
                      ·intro w'
                       go_simp
                       with_reducible rfl
                      rotate_left
                      ·simp only [Act.put, setIfInBounds_toArray, set_cons_zero, set_cons_succ, i64_w, i32_w]
                       rfl
                      refine pure_ (i := 11) (N := some 109) (v := undef) (a' := ?_) m12_ rfl rfl (any_of HT_.out (by kernel_rfl)) (fun _ _ _ h => h) (Or.inr ⟨by rfl, rfl⟩) ?_ ?_
                      rotate_left
                      ·simp only [Act.put, setIfInBounds_toArray, set_cons_zero, set_cons_succ, i64_w, i32_w]
                       rfl
                      refine pure_ (i := 12) (N := some 110) (v := undef) (a' := ?_) m13_ rfl rfl (any_of HT_.out (by kernel_rfl)) (fun _ _ _ h => h) (Or.inr ⟨by rfl, rfl⟩) ?_ ?_
                      rotate_left
                      ·simp only [Act.put, setIfInBounds_toArray, set_cons_zero, set_cons_succ, i64_w, i32_w]
                       rfl
                      refine pure_ (i := 13) (N := some 111) (v := undef) (a' := ?_) m14_ rfl rfl (any_of HT_.out (by kernel_rfl)) (fun _ _ _ h => h) (Or.inr ⟨by rfl, rfl⟩) ?_ ?_
                      rotate_left
                      ·simp only [Act.put, setIfInBounds_toArray, set_cons_zero, set_cons_succ, i64_w, i32_w]
                       rfl
                      refine pure_ (i := 14) (N := some 112) (v := undef) (a' := ?_) m15_ rfl rfl (any_of HT_.out (by kernel_rfl)) (fun _ _ _ h => h) (Or.inr ⟨by rfl, rfl⟩) ?_ ?_
                      rotate_left
                      ·simp only [Act.put, setIfInBounds_toArray, set_cons_zero, set_cons_succ, i64_w, i32_w]
                       rfl
                      refine pure_ (i := 15) (N := some 113) (v := undef) (a' := ?_) m16_ rfl rfl (any_of HT_.out (by kernel_rfl)) (fun _ _ _ h => h) (Or.inr ⟨by rfl, rfl⟩) ?_ ?_
                      rotate_left
                      ·simp only [Act.put, setIfInBounds_toArray, set_cons_zero, set_cons_succ, i64_w, i32_w]
                       rfl
                      refine pure_ (i := 16) (N := some 114) (v := undef) (a' := ?_) m17_ rfl rfl (any_of HT_.out (by kernel_rfl)) (fun _ _ _ h => h) (Or.inr ⟨by rfl, rfl⟩) ?_ ?_
                      rotate_left
                      ·simp only [Act.put, setIfInBounds_toArray, set_cons_zero, set_cons_succ, i64_w, i32_w]
                       rfl
                      refine pure_ (i := 17) (N := some 115) (v := undef) (a' := ?_) m18_ rfl rfl (any_of HT_.out (by kernel_rfl)) (fun _ _ _ h => h) (Or.inr ⟨by rfl, rfl⟩) ?_ ?_
                      rotate_left
                      ·simp only [Act.put, setIfInBounds_toArray, set_cons_zero, set_cons_succ, i64_w, i32_w]
                       rfl
                      refine pure_ (i := 18) (N := some 116) (v := ?_) (a' := ?_) m19_ rfl rfl (any_of HT_.out (by kernel_rfl)) (fun _ _ _ h => h) (Or.inl ⟨by rfl, ?_⟩) ?_ ?_
                      rotate_left
                      ·intro w'
                       go_simp
                       with_reducible rfl
                      rotate_left
                      ·simp only [Act.put, setIfInBounds_toArray, set_cons_zero, set_cons_succ, i64_w, i32_w]
                       rfl
                      refine pure_ (i := 19) (N := some 117) (v := ?_) (a' := ?_) m20_ rfl rfl (any_of HT_.out (by kernel_rfl)) (fun _ _ _ h => h) (Or.inl ⟨by rfl, ?_⟩) ?_ ?_
                      rotate_left
                      ·intro w'
                       go_simp
                       with_reducible rfl
                      rotate_left
                      ·simp only [Act.put, setIfInBounds_toArray, set_cons_zero, set_cons_succ, i64_w, i32_w]
                       rfl
                      refine pure_ (i := 20) (N := some 118) (v := undef) (a' := ?_) m21_ rfl rfl (any_of HT_.out (by kernel_rfl)) (fun _ _ _ h => h) (Or.inr ⟨by rfl, rfl⟩) ?_ ?_
                      rotate_left
                      ·simp only [Act.put, setIfInBounds_toArray, set_cons_zero, set_cons_succ, i64_w, i32_w]
                       rfl
                      refine pure_ (i := 21) (N := some 119) (v := undef) (a' := ?_) m22_ rfl rfl (any_of HT_.out (by kernel_rfl)) (fun _ _ _ h => h) (Or.inr ⟨by rfl, rfl⟩) ?_ ?_
                      rotate_left
                      ·simp only [Act.put, setIfInBounds_toArray, set_cons_zero, set_cons_succ, i64_w, i32_w]
                       rfl
                      refine pure_ (i := 22) (N := some 120) (v := undef) (a' := ?_) m23_ rfl rfl (any_of HT_.out (by kernel_rfl)) (fun _ _ _ h => h) (Or.inr ⟨by rfl, rfl⟩) ?_ ?_
                      rotate_left
                      ·simp only [Act.put, setIfInBounds_toArray, set_cons_zero, set_cons_succ, i64_w, i32_w]
                       rfl
                      refine pure_ (i := 23) (N := some 121) (v := undef) (a' := ?_) m24_ rfl rfl (any_of HT_.out (by kernel_rfl)) (fun _ _ _ h => h) (Or.inr ⟨by rfl, rfl⟩) ?_ ?_
                      rotate_left
                      ·simp only [Act.put, setIfInBounds_toArray, set_cons_zero, set_cons_succ, i64_w, i32_w]
                       rfl
                      refine pure_ (i := 24) (N := some 122) (v := undef) (a' := ?_) m25_ rfl rfl (any_of HT_.out (by kernel_rfl)) (fun _ _ _ h => h) (Or.inr ⟨by rfl, rfl⟩) ?_ ?_
                      rotate_left
                      ·simp only [Act.put, setIfInBounds_toArray, set_cons_zero, set_cons_succ, i64_w, i32_w]
                       rfl
                      refine pure_ (i := 25) (N := some 123) (v := undef) (a' := ?_) m26_ rfl rfl (any_of HT_.out (by kernel_rfl)) (fun _ _ _ h => h) (Or.inr ⟨by rfl, rfl⟩) ?_ ?_
                      rotate_left
                      ·simp only [Act.put, setIfInBounds_toArray, set_cons_zero, set_cons_succ, i64_w, i32_w]
                       rfl
                      refine pure_ (i := 26) (N := some 124) (v := ?_) (a' := ?_) m27_ rfl rfl (any_of HT_.out (by kernel_rfl)) (fun _ _ _ h => h) (Or.inl ⟨by rfl, ?_⟩) ?_ ?_
                      rotate_left
                      ·intro w'
                       go_simp
                       with_reducible rfl
                      rotate_left
                      ·simp only [Act.put, setIfInBounds_toArray, set_cons_zero, set_cons_succ, i64_w, i32_w]
                       rfl
                      refine pure_ (i := 27) (N := some 125) (v := ?_) (a' := ?_) m28_ rfl rfl (any_of HT_.out (by kernel_rfl)) (fun _ _ _ h => h) (Or.inl ⟨by rfl, ?_⟩) ?_ ?_
                      rotate_left
                      ·intro w'
                       go_simp
                       with_reducible rfl
                      rotate_left
                      ·simp only [Act.put, setIfInBounds_toArray, set_cons_zero, set_cons_succ, i64_w, i32_w]
                       rfl
                      refine pure_ (i := 28) (N := some 126) (v := undef) (a' := ?_) m29_ rfl rfl (any_of HT_.out (by kernel_rfl)) (fun _ _ _ h => h) (Or.inr ⟨by rfl, rfl⟩) ?_ ?_
                      rotate_left
                      ·simp only [Act.put, setIfInBounds_toArray, set_cons_zero, set_cons_succ, i64_w, i32_w]
                       rfl
                      refine pure_ (i := 29) (N := some 127) (v := undef) (a' := ?_) m30_ rfl rfl (any_of HT_.out (by kernel_rfl)) (fun _ _ _ h => h) (Or.inr ⟨by rfl, rfl⟩) ?_ ?_
                      rotate_left
                      ·simp only [Act.put, setIfInBounds_toArray, set_cons_zero, set_cons_succ, i64_w, i32_w]
                       rfl
                      refine pure_ (i := 30) (N := some 128) (v := undef) (a' := ?_) m31_ rfl rfl (any_of HT_.out (by kernel_rfl)) (fun _ _ _ h => h) (Or.inr ⟨by rfl, rfl⟩) ?_ ?_
                      rotate_left
                      ·simp only [Act.put, setIfInBounds_toArray, set_cons_zero, set_cons_succ, i64_w, i32_w]
                       rfl
                      refine pure_ (i := 31) (N := some 129) (v := undef) (a' := ?_) m32_ rfl rfl (any_of HT_.out (by kernel_rfl)) (fun _ _ _ h => h) (Or.inr ⟨by rfl, rfl⟩) ?_ ?_
                      rotate_left
                      ·simp only [Act.put, setIfInBounds_toArray, set_cons_zero, set_cons_succ, i64_w, i32_w]
                       rfl
                      refine pure_ (i := 32) (N := some 130) (v := undef) (a' := ?_) m33_ rfl rfl (any_of HT_.out (by kernel_rfl)) (fun _ _ _ h => h) (Or.inr ⟨by rfl, rfl⟩) ?_ ?_
                      rotate_left
                      ·simp only [Act.put, setIfInBounds_toArray, set_cons_zero, set_cons_succ, i64_w, i32_w]
                       rfl
                      refine pure_ (i := 33) (N := some 131) (v := undef) (a' := ?_) m38_ rfl rfl (any_of HT_.out (by kernel_rfl)) (fun _ _ _ h => h) (Or.inr ⟨by rfl, rfl⟩) ?_ ?_
                      rotate_left
                      ·simp only [Act.put, setIfInBounds_toArray, set_cons_zero, set_cons_succ, i64_w, i32_w]
                       rfl
                      refine pure_ (i := 34) (N := some 132) (v := undef) (a' := ?_) m39_ rfl rfl (any_of HT_.out (by kernel_rfl)) (fun _ _ _ h => h) (Or.inr ⟨by rfl, rfl⟩) ?_ ?_
                      rotate_left
                      ·simp only [Act.put, setIfInBounds_toArray, set_cons_zero, set_cons_succ, i64_w, i32_w]
                       rfl
                      refine pure_ (i := 35) (N := some 133) (v := undef) (a' := ?_) m40_ rfl rfl (any_of HT_.out (by kernel_rfl)) (fun _ _ _ h => h) (Or.inr ⟨by rfl, rfl⟩) ?_ ?_
                      rotate_left
                      ·simp only [Act.put, setIfInBounds_toArray, set_cons_zero, set_cons_succ, i64_w, i32_w]
                       rfl
                      refine pure_ (i := 36) (N := some 134) (v := undef) (a' := ?_) m34_ rfl rfl (any_of HT_.out (by kernel_rfl)) (fun _ _ _ h => h) (Or.inr ⟨by rfl, rfl⟩) ?_ ?_
                      rotate_left
                      ·simp only [Act.put, setIfInBounds_toArray, set_cons_zero, set_cons_succ, i64_w, i32_w]
                       rfl
                      refine pure_ (i := 37) (N := some 135) (v := undef) (a' := ?_) m35_ rfl rfl (any_of HT_.out (by kernel_rfl)) (fun _ _ _ h => h) (Or.inr ⟨by rfl, rfl⟩) ?_ ?_
                      rotate_left
                      ·simp only [Act.put, setIfInBounds_toArray, set_cons_zero, set_cons_succ, i64_w, i32_w]
                       rfl
                      refine pure_ (i := 38) (N := some 136) (v := undef) (a' := ?_) m36_ rfl rfl (any_of HT_.out (by kernel_rfl)) (fun _ _ _ h => h) (Or.inr ⟨by rfl, rfl⟩) ?_ ?_
                      rotate_left
                      ·simp only [Act.put, setIfInBounds_toArray, set_cons_zero, set_cons_succ, i64_w, i32_w]
                       rfl
                      refine pure_ (i := 39) (N := some 137) (v := ?_) (a' := ?_) m37_ rfl rfl (any_of HT_.out (by kernel_rfl)) (fun _ _ _ h => h) (Or.inl ⟨by rfl, ?_⟩) ?_ ?_
                      rotate_left
                      ·intro w'
                       go_simp
                       with_reducible rfl
                      rotate_left
                      ·simp only [Act.put, setIfInBounds_toArray, set_cons_zero, set_cons_succ, i64_w, i32_w]
                       rfl
                      refine done_ (done_of HT_.out (by kernel_rfl)) ?_
                      try go_wp2
                      go_meet
                      case rel => exact ⟨_, (true), (by first | rfl | (simp; done) | (simp [*]; done)), H', ⟨by have := HJ2.out; have := HK2.out; have := HJ29.out; have := HK4.out; first | omega | exact Nat.le_refl _⟩, ⟨by (with_reducible repeat first | apply Kd.R_alloc | apply Kd.R_drewN | apply Kd.R_drew); exact HO_5.out⟩, ⟨by (with_reducible repeat first | apply Kd.R_alloc | apply Kd.R_drewN | apply Kd.R_drew); exact HO_6.out⟩, ⟨by (with_reducible repeat first | apply Kd.R_alloc | apply Kd.R_drewN | apply Kd.R_drew); exact HO_8.out⟩, ⟨by (with_reducible repeat first | apply Kd.R_alloc | apply Kd.R_drewN | apply Kd.R_drew); exact HO_10.out⟩, ⟨by (with_reducible repeat first | apply Kd.R_alloc | apply Kd.R_drewN | apply Kd.R_drew); exact HO_2159003.out⟩, ⟨by (with_reducible repeat first | refine blk_drewN ?_ _ | refine blk_drew ?_ | refine blk_alloc ?_ _); exact BK2158.out⟩, ⟨by repeat (first | (with_reducible first | exact HB.out | apply below_alloc | apply pw_below_drewN | apply below_drew1 | refine below_set ?_ GE2158.out) | exact HB.out)⟩⟩
                   ·(rw [if_neg c52] at H);(exact absurd H (by simp))
                  ·(rw [if_neg c51] at H);(exact absurd H (by simp))
                 ·(rw [if_neg c50] at H);(exact absurd H (by simp))
                ·(rw [if_neg c49] at H);(exact absurd H (by simp))
               case rest =>
                clear HC47
                try clear p2
                try clear q2
                try clear hx2
                try clear c4
                try clear c5
                try clear p21
                try clear q21
                try clear hx21
                try clear c49
                try clear c50
                try clear c51
                try clear c52
                try clear c53
                try clear c53b0
                try clear c53b1
                try clear c55
                try clear c56
                try clear c57
                try clear c57b0
                try clear c57b1
                try clear c58
                try clear hx2185_0
                try clear hx2186_0
                try clear hx2187_0
                try clear p2185
                try clear p2186
                try clear p2187
                try clear q2185
                try clear q2186
                try clear q2187
                obtain ⟨kq, x137_46, rfl, HA, HJ46, HO_5, HO_6, HO_8, HO_10, HO_2159003, BK2158, HB⟩ := hcut
                cases kq with
                | zero => exact absurd HA.out (by simp [racewaylaw6_ResidualBack.j4])
                | succ kj46 =>
                 (have H := HA.out);(clear HA);(simp only [racewaylaw6_ResidualBack.j4] at H)
                 by_cases c71 : x137_46 = true
                 ·(subst c71);(have H1 : (some false) = some r := by rw [if_pos rfl] at H; exact H);(clear H);(have H := H1);(clear H1);(exact absurd ((Option.some.inj H).trans hrT_.out) (by simp))
                 ·(replace c71 := Bool.eq_false_iff.mpr c71);(subst c71);(have H1 : (if 0 ≤ x14_4 then (if x14_4 < (x6_2.length : Int) then ((residual_Push.f kj46 2 1 2 x2159003_2 y2159 (([wrap64 (2 * x14_4)] : List Int)) (rd x6_2 x14_4)).bind fun bt2195 => (if bt2195.2 = 0 then (if (rd x6_2 x14_4) > 0 then (if x14_4 < (bt2195.1.length : Int) then (racewaylaw6_ResidualBack.j5 kj46 l0 y2159 x6_2 t2172 t2176 x14_4 ((rd bt2195.1 x14_4) != (rd x6_2 x14_4)) 2 1 2 x2159003_2) else (none)) else (racewaylaw6_ResidualBack.j5 kj46 l0 y2159 x6_2 t2172 t2176 x14_4 true 2 1 2 x2159003_2)) else (if (rd x6_2 x14_4) > 0 then (racewaylaw6_ResidualBack.j5 kj46 l0 y2159 x6_2 t2172 t2176 x14_4 true 2 1 2 x2159003_2) else (racewaylaw6_ResidualBack.j5 kj46 l0 y2159 x6_2 t2172 t2176 x14_4 false 2 1 2 x2159003_2)))) else (none)) else (none)) = some r := by rw [if_neg (show ¬ (false = true) by decide)] at H; exact H);(clear H);(have H := H1);(clear H1);(obtain ⟨y2191, hy2191⟩ : ∃ y_ : List Int, y_ = (([wrap64 (2 * x14_4)] : List Int)) := ⟨_, rfl⟩);(replace H : (if 0 ≤ x14_4 then (if x14_4 < (x6_2.length : Int) then ((residual_Push.f kj46 2 1 2 x2159003_2 y2159 y2191 (rd x6_2 x14_4)).bind fun bt2195 => (if bt2195.2 = 0 then (if (rd x6_2 x14_4) > 0 then (if x14_4 < (bt2195.1.length : Int) then (racewaylaw6_ResidualBack.j5 kj46 l0 y2159 x6_2 t2172 t2176 x14_4 ((rd bt2195.1 x14_4) != (rd x6_2 x14_4)) 2 1 2 x2159003_2) else (none)) else (racewaylaw6_ResidualBack.j5 kj46 l0 y2159 x6_2 t2172 t2176 x14_4 true 2 1 2 x2159003_2)) else (if (rd x6_2 x14_4) > 0 then (racewaylaw6_ResidualBack.j5 kj46 l0 y2159 x6_2 t2172 t2176 x14_4 true 2 1 2 x2159003_2) else (racewaylaw6_ResidualBack.j5 kj46 l0 y2159 x6_2 t2172 t2176 x14_4 false 2 1 2 x2159003_2)))) else (none)) else (none)) = some r := by first | (rw [hy2191]; with_reducible exact H) | (have H2_ := (Option.bind_some _ _).symm.trans H; rw [hy2191]; with_reducible exact H2_) | (have H2_ := (Option.bind_some _ _).symm.trans H; with_reducible exact H2_) | with_reducible exact H | (rw [hy2191]; exact H) | exact H);(have Ny2191 := Aside0.mk hy2191);(clear hy2191)
                  by_cases c72 : 0 ≤ x14_4
                  ·(rw [if_pos c72] at H);(have c72b0 : decide (0 ≤ x14_4) = true := decide_eq_true c72);(clear c72)
                   by_cases c73 : x14_4 < (x6_2.length : Int)
                   ·(rw [if_pos c73] at H);(have c73b0 : decide (x14_4 < (x6_2.length : Int)) = true := decide_eq_true c73);(clear c73);(replace H := Option.bind_eq_some_iff.mp H);(obtain ⟨⟨t2195, t2198⟩, A740, H⟩ := H);(replace H : (if t2198 = 0 then (if (rd x6_2 x14_4) > 0 then (if x14_4 < (t2195.length : Int) then (racewaylaw6_ResidualBack.j5 kj46 l0 y2159 x6_2 t2172 t2176 x14_4 ((rd t2195 x14_4) != (rd x6_2 x14_4)) 2 1 2 x2159003_2) else (none)) else (racewaylaw6_ResidualBack.j5 kj46 l0 y2159 x6_2 t2172 t2176 x14_4 true 2 1 2 x2159003_2)) else (if (rd x6_2 x14_4) > 0 then (racewaylaw6_ResidualBack.j5 kj46 l0 y2159 x6_2 t2172 t2176 x14_4 true 2 1 2 x2159003_2) else (racewaylaw6_ResidualBack.j5 kj46 l0 y2159 x6_2 t2172 t2176 x14_4 false 2 1 2 x2159003_2))) = some r := H);(have A74 := Aside0.mk A740);(clear A740);(have HC75 := Aside0.mk H);(clear H)
                    try go_wp2
                    (have n0_ := Aside0.mk (Kd.R_drew HO_5.out));(have n1_ := Aside0.mk (Kd.R_drew HO_6.out));(have n2_ := Aside0.mk (Kd.R_drew HO_8.out));(have n3_ := Aside0.mk (Kd.R_drew HO_10.out));(have n4_ := Aside0.mk (Kd.R_drew HO_2159003.out));(have n5_ := Aside0.mk (blk_drew BK2158.out));(have n6_ := Aside0.mk (below_drew1 HB.out));(clear HO_5);(clear HO_6);(clear HO_8);(clear HO_10);(clear HO_2159003);(clear BK2158);(clear HB);(have HO_5 := n0_);(have HO_6 := n1_);(have HO_8 := n2_);(have HO_10 := n3_);(have HO_2159003 := n4_);(have BK2158 := n5_);(have HB := n6_);(clear n0_ n1_ n2_ n3_ n4_ n5_ n6_);(have p2194 : 0 ≤ (x14_4 : Int) := of_decide_eq_true (by first | (with_reducible assumption) | assumption));(have q2194 : x14_4 < (x6_2.length : Int) := of_decide_eq_true (by first | (with_reducible assumption) | assumption));(obtain ⟨ad2194, e2194, hx2194_0⟩ := Kd.at_int (Kd.R_reads' HO_6.out).2.2 x14_4 p2194 q2194);(cases e2194);(replace p2194 := eq_true p2194);(replace q2194 := eq_true q2194);(refine start_ (n := 15) (S := fun w' => w'.cell? ⟨gb2158, 0, none⟩ = some (.int .i64 2) ∧ w'.cell? ⟨gb2158, 1, none⟩ = some (.int .i64 1) ∧ w'.cell? ⟨gb2158, 2, none⟩ = some (.int .i64 2) ∧ w'.cell? ⟨gb2158, 3, none⟩ = some (.slice Ao32 x2159003_2.length co32) ∧ w'.cell? (ad2194.add (x14_4).toNat) = some (.int .i64 (rd x6_2 x14_4))) (ds := []) #[false, false, false, false, false, false, false, false, false, false, false, false, false, false, false] (by kernel_rfl) rfl rfl ⟨(blk_cell BK2158.out 0).trans rfl, (blk_cell BK2158.out 1).trans rfl, (blk_cell BK2158.out 2).trans rfl, (blk_cell BK2158.out 3).trans rfl, hx2194_0⟩ (fun hHeld => ?_); refine with_tabW racewaylaw6_ResidualBack.tab22 racewaylaw6_ResidualBack.bits22 (fun HT_ HW_ => ?_));(generalize wc.drew = w76 at HO_5 HO_6 HO_8 HO_10 HO_2159003 BK2158 HB hx2194_0 hHeld ⊢);(refine pure_ (i := 1) (N := some 140) (v := ?_) (a' := ?_) #[false, true, false, false, false, false, false, false, false, false, false, false, false, false, false] rfl rfl (any_of HT_.out (by kernel_rfl)) (fun _ _ _ h => h) (Or.inl ⟨by rfl, ?_⟩) ?_ ?_)
                    rotate_left
                    ·intro w'
                     go_simp
                     with_reducible rfl
                    rotate_left
                    ·simp only [Act.put, setIfInBounds_toArray, set_cons_zero, set_cons_succ, i64_w, i32_w]
                     rfl
                    refine pure_ (i := 2) (N := some 141) (v := ?_) (a' := ?_) #[false, true, true, false, false, false, false, false, false, false, false, false, false, false, false] rfl rfl (any_of HT_.out (by kernel_rfl)) (fun _ _ _ h => h) (Or.inl ⟨by rfl, ?_⟩) ?_ ?_
                    rotate_left
                    ·intro w'
                     go_simp
                     with_reducible rfl
                    rotate_left
                    ·simp only [Act.put, setIfInBounds_toArray, set_cons_zero, set_cons_succ, i64_w, i32_w]
                     rfl
                    refine pure_ (i := 3) (N := some 142) (v := ?_) (a' := ?_) #[false, true, true, true, false, false, false, false, false, false, false, false, false, false, false] rfl rfl (any_of HT_.out (by kernel_rfl)) (fun _ _ _ h => h) (Or.inl ⟨by rfl, ?_⟩) ?_ ?_
                    rotate_left
                    ·intro w'
                     go_simp
                     with_reducible rfl
                    rotate_left
                    ·simp only [Act.put, setIfInBounds_toArray, set_cons_zero, set_cons_succ, i64_w, i32_w]
                     rfl
                    refine pure_ (i := 5) (N := some 144) (v := ?_) (a' := ?_) #[false, true, true, true, false, true, false, false, false, false, false, false, false, false, false] rfl rfl (any_of HT_.out (by kernel_rfl)) (fun _ _ _ h => h) (Or.inl ⟨by rfl, ?_⟩) ?_ ?_
                    rotate_left
                    ·intro w'
                     go_simp
                     with_reducible rfl
                    rotate_left
                    ·simp only [Act.put, setIfInBounds_toArray, set_cons_zero, set_cons_succ, i64_w, i32_w]
                     rfl
                    refine pure_ (i := 6) (N := some 145) (v := ?_) (a' := ?_) #[false, true, true, true, false, true, true, false, false, false, false, false, false, false, false] rfl rfl (any_of HT_.out (by kernel_rfl)) (fun _ _ _ h => h) (Or.inl ⟨by rfl, ?_⟩) ?_ ?_
                    rotate_left
                    ·intro w'
                     go_simp
                     with_reducible rfl
                    rotate_left
                    ·simp only [Act.put, setIfInBounds_toArray, set_cons_zero, set_cons_succ, i64_w, i32_w]
                     rfl
                    refine pure_ (i := 7) (N := some 146) (v := ?_) (a' := ?_) #[false, true, true, true, false, true, true, true, false, false, false, false, false, false, false] rfl rfl (any_of HT_.out (by kernel_rfl)) (fun _ _ _ h => h) (Or.inl ⟨by rfl, ?_⟩) ?_ ?_
                    rotate_left
                    ·intro w'
                     go_simp
                     with_reducible rfl
                    rotate_left
                    ·simp only [Act.put, setIfInBounds_toArray, set_cons_zero, set_cons_succ, i64_w, i32_w]
                     rfl
                    refine take_ (i := 0) (N := some 139) (v := ?_) (a' := ?_) #[true, true, true, true, false, true, true, true, false, false, false, false, false, false, false] rfl rfl (take_ofW HT_.out HW_.out (by kernel_rfl)) (fun _ _ _ h => h) (Or.inl ⟨by rfl, ?_⟩) hHeld ?_ ?_
                    rotate_left
                    ·rintro w' ⟨s0, s1, s2, s3, s4⟩
                     go_simp
                     with_reducible rfl
                    rotate_left
                    ·simp only [Act.put, setIfInBounds_toArray, set_cons_zero, set_cons_succ, i64_w, i32_w]
                     rfl
                    refine take_ (i := 8) (N := some 147) (v := ?_) (a' := ?_) #[true, true, true, true, false, true, true, true, true, false, false, false, false, false, false] rfl rfl (take_ofW HT_.out HW_.out (by kernel_rfl)) (fun _ _ _ h => h) (Or.inl ⟨by rfl, ?_⟩) hHeld ?_ ?_
                    rotate_left
                    ·rintro w' ⟨s0, s1, s2, s3, s4⟩
                     go_simp
                     with_reducible rfl
                    rotate_left
                    ·simp only [Act.put, setIfInBounds_toArray, set_cons_zero, set_cons_succ, i64_w, i32_w]
                     rfl
                    (refine one_ (i := 4) (N := some 143) #[true, true, true, true, true, true, true, true, true, false, false, false, false, false, false] rfl rfl (one_of HT_.out (by kernel_rfl)) (by decide) (fun K hK => ?_));(refine Kd.R_lit_step (Kd.int .i64) _ 3 ?hg (N := 143) ?hd (xs := ([wrap64 (2 * x14_4)] : List Int)) (inner := [.int .i64 (wrap64 (2 * x14_4))]) (ok := fun _ => True) (okp := fun _ => True) ?hr ?hp (fun _ hk => hk) trivial (Below.refl _ _) (Nat.le_refl _) (by simp) ?_; (case hd => rfl); (case hg => rfl); (case hr => first | (go_simp; done) | (go_simp; rfl)); (case hp => exact (Reps.one (show Kd.M (Kd.int .i64) _ _ _ (wrap64 (2 * x14_4)) [.int .i64 (wrap64 (2 * x14_4))] from rfl) (Reps.none _ _))));(intro v2192 w77 ho78 hb hg_ hnew_);(have HS4_ := (hb.cell (World.block_lt_of_cell? _ _ (hHeld.2.2.2.2))).trans (hHeld.2.2.2.2));(clear hg_ hnew_);((first | rw [← Ny2191.out] at ho78 | (simp only [Int.reduceToNat] at ho78; rw [← Ny2191.out] at ho78)));(have n0_ := Aside0.mk (Kd.R_below (by (with_reducible repeat first | apply Kd.R_alloc | apply Kd.R_drewN | apply Kd.R_drew); exact HO_5.out) hb));(have n1_ := Aside0.mk (Kd.R_below (by (with_reducible repeat first | apply Kd.R_alloc | apply Kd.R_drewN | apply Kd.R_drew); exact HO_6.out) hb));(have n2_ := Aside0.mk (Kd.R_below (by (with_reducible repeat first | apply Kd.R_alloc | apply Kd.R_drewN | apply Kd.R_drew); exact HO_8.out) hb));(have n3_ := Aside0.mk (Kd.R_below (by (with_reducible repeat first | apply Kd.R_alloc | apply Kd.R_drewN | apply Kd.R_drew); exact HO_10.out) hb));(have n4_ := Aside0.mk (Kd.R_below (by (with_reducible repeat first | apply Kd.R_alloc | apply Kd.R_drewN | apply Kd.R_drew); exact HO_2159003.out) hb));(have n5_ := Aside0.mk (Kd.R_lower ho78 (below_size (by repeat (first | (with_reducible first | exact HB.out | apply below_alloc | apply pw_below_drewN | apply below_drew1 | refine below_set ?_ GE2158.out) | exact HB.out)))));(have n6_ := Aside0.mk (blk_below (g := gb2158) (o := .cells #[.int .i64 2, .int .i64 1, .int .i64 2, .slice Ao32 x2159003_2.length co32] 27 (0, 0)) (by (with_reducible repeat first | refine blk_drewN ?_ _ | refine blk_drew ?_ | refine blk_alloc ?_ _); exact BK2158.out) hb));(have n7_ := Aside0.mk (below_step (by repeat (first | (with_reducible first | exact HB.out | apply below_alloc | apply pw_below_drewN | apply below_drew1 | refine below_set ?_ GE2158.out) | exact HB.out)) hb));(clear HO_5);(clear HO_6);(clear HO_8);(clear HO_10);(clear HO_2159003);(clear BK2158);(clear HB);(have HO_5 := n0_);(have HO_6 := n1_);(have HO_8 := n2_);(have HO_10 := n3_);(have HO_2159003 := n4_);(have HO2193 := n5_);(have BK2158 := n6_);(have HB := n7_);(clear n0_ n1_ n2_ n3_ n4_ n5_ n6_ n7_);(clear hb ho78);(obtain ⟨Ao79, co79, eo79⟩ := Kd.R_slice HO2193.out);((first | subst eo79 | (injection eo79 with f1_ f2_ f3_; have f4_ := f1_.symm; have f5_ := f3_.symm; clear f1_ f2_ f3_; subst f4_; subst f5_)));(refine hK.out _ _ ⟨(blk_cell BK2158.out 0).trans rfl, (blk_cell BK2158.out 1).trans rfl, (blk_cell BK2158.out 2).trans rfl, (blk_cell BK2158.out 3).trans rfl, HS4_⟩ (fun hHeld => ?_));(clear hK K);(refine norm_ (a' := ?_) ?_ ?_)
                    rotate_left
                    ·show Act.put _ (some 143) _ = _
                     simp only [Act.put, setIfInBounds_toArray, set_cons_zero, set_cons_succ, i64_w, i32_w]
                     rfl
                    (refine one_ (i := 9) (N := some 148) #[true, true, true, true, true, true, true, true, true, true, false, false, false, false, false] rfl rfl (one_of HT_.out (by kernel_rfl)) (by decide) (fun K hK => ?_));(refine goes_ Try.func28 (by kernel_rfl) rfl #[.agg #[.int .i64 2, .int .i64 1, .int .i64 2, .slice Ao32 x2159003_2.length co32], .slice Ao33 y2159.length co33, .slice Ao79 y2191.length co79, .int .i64 (rd x6_2 x14_4)] (by rfl) rfl rfl (by (try simp only [List.map_toArray, List.map_cons, List.map_nil]); first | done | rfl | (simp only [List.length_drop, List.length_take]; rfl)) ?_)
                    with_reducible refine (residual_Push.calls kj46 2 1 2 _ _ x2159003_2 _ _ y2159 _ _ y2191 (rd x6_2 x14_4) t2195 t2198 _ ?side1 ?side2 ?side3 ?side4 ?side5 ?side6 A74.out).mono ?_
                    (case side1 => repeat (first | exact (Kd.R_reads' HO_2159003.out).2.2 | (with_reducible refine Kd.C_alloc ?_ _) | (with_reducible refine Kd.C_drewN ?_ _) | (with_reducible refine Kd.C_drew ?_)))
                    (case side2 => exact (Kd.R_reads' HO_2159003.out).2.1)
                    (case side3 => repeat (first | exact (Kd.R_reads' HO_5.out).2.2 | (with_reducible refine Kd.C_alloc ?_ _) | (with_reducible refine Kd.C_drewN ?_ _) | (with_reducible refine Kd.C_drew ?_)))
                    (case side4 => exact (Kd.R_reads' HO_5.out).2.1)
                    (case side5 => repeat (first | exact (Kd.R_reads' HO2193.out).2.2 | (with_reducible refine Kd.C_alloc ?_ _) | (with_reducible refine Kd.C_drewN ?_ _) | (with_reducible refine Kd.C_drew ?_)))
                    (case side6 => exact (Kd.R_reads' HO2193.out).2.1)
                    (rintro e w80 ⟨v2196, rfl, ho0, hb⟩);(have HS4_ := (hb.cell (World.block_lt_of_cell? _ _ (hHeld.2.2.2.2))).trans (hHeld.2.2.2.2));(refine ⟨_, rfl, ?_⟩);(have n0_ := Aside0.mk (Kd.R_elder' (by (with_reducible repeat first | apply Kd.R_alloc | apply Kd.R_drewN | apply Kd.R_drew); exact HO_5.out) (Kd.R_base ho0) hb));(have n1_ := Aside0.mk (Kd.R_elder' (by (with_reducible repeat first | apply Kd.R_alloc | apply Kd.R_drewN | apply Kd.R_drew); exact HO_6.out) (Kd.R_base ho0) hb));(have n2_ := Aside0.mk (Kd.R_elder' (by (with_reducible repeat first | apply Kd.R_alloc | apply Kd.R_drewN | apply Kd.R_drew); exact HO_8.out) (Kd.R_base ho0) hb));(have n3_ := Aside0.mk (Kd.R_elder' (by (with_reducible repeat first | apply Kd.R_alloc | apply Kd.R_drewN | apply Kd.R_drew); exact HO_10.out) (Kd.R_base ho0) hb));(have n4_ := Aside0.mk (Kd.R_below (by (with_reducible repeat first | apply Kd.R_alloc | apply Kd.R_drewN | apply Kd.R_drew); exact HO_2159003.out) hb));(have n5_ := Aside0.mk (Kd.R_below (by (with_reducible repeat first | apply Kd.R_alloc | apply Kd.R_drewN | apply Kd.R_drew); exact HO2193.out) hb));(have n6_ := Aside0.mk (Kd.R_lower (Kd.R_new' (Kd.R_new' (Kd.R_new' (Kd.R_new' ho0 (Kd.R_lt (by (with_reducible repeat first | apply Kd.R_alloc | apply Kd.R_drewN | apply Kd.R_drew); exact HO_5.out))) (Kd.R_lt (by (with_reducible repeat first | apply Kd.R_alloc | apply Kd.R_drewN | apply Kd.R_drew); exact HO_6.out))) (Kd.R_lt (by (with_reducible repeat first | apply Kd.R_alloc | apply Kd.R_drewN | apply Kd.R_drew); exact HO_8.out))) (Kd.R_lt (by (with_reducible repeat first | apply Kd.R_alloc | apply Kd.R_drewN | apply Kd.R_drew); exact HO_10.out))) (below_size (by repeat (first | (with_reducible first | exact HB.out | apply below_alloc | apply pw_below_drewN | apply below_drew1 | refine below_set ?_ GE2158.out) | exact HB.out)))));(have n7_ := Aside0.mk (blk_below (g := gb2158) (o := .cells #[.int .i64 2, .int .i64 1, .int .i64 2, .slice Ao32 x2159003_2.length co32] 27 (0, 0)) (by (with_reducible repeat first | refine blk_drewN ?_ _ | refine blk_drew ?_ | refine blk_alloc ?_ _); exact BK2158.out) hb));(have n8_ := Aside0.mk (below_step (by repeat (first | (with_reducible first | exact HB.out | apply below_alloc | apply pw_below_drewN | apply below_drew1 | refine below_set ?_ GE2158.out) | exact HB.out)) hb));(clear HO_5);(clear HO_6);(clear HO_8);(clear HO_10);(clear HO_2159003);(clear HO2193);(clear BK2158);(clear HB);(have HO_5 := n0_);(have HO_6 := n1_);(have HO_8 := n2_);(have HO_10 := n3_);(have HO_2159003 := n4_);(have HO2193 := n5_);(have HO2197 := n6_);(have BK2158 := n7_);(have HB := n8_);(clear n0_ n1_ n2_ n3_ n4_ n5_ n6_ n7_ n8_);((try clear hb));((try clear hb2));((try clear hk));((try clear hi));((try clear ho0));(refine hK.out _ _ ⟨(blk_cell BK2158.out 0).trans rfl, (blk_cell BK2158.out 1).trans rfl, (blk_cell BK2158.out 2).trans rfl, (blk_cell BK2158.out 3).trans rfl, HS4_⟩ (fun hHeld => ?_));(clear hK K);(refine norm_ (a' := ?_) ?_ ?_)
                    rotate_left
                    ·show Act.put _ (some 148) _ = _
                     simp only [Act.put, setIfInBounds_toArray, set_cons_zero, set_cons_succ, i64_w, i32_w]
                     rfl
                    refine pure_ (i := 10) (N := some 138) (v := ?_) (a' := ?_) #[true, true, true, true, true, true, true, true, true, true, true, false, false, false, false] rfl rfl (any_of HT_.out (by kernel_rfl)) (fun _ _ _ h => h) (Or.inl ⟨by rfl, ?_⟩) ?_ ?_
                    rotate_left
                    ·intro w'
                     go_simp
                     with_reducible rfl
                    rotate_left
                    ·simp only [Act.put, setIfInBounds_toArray, set_cons_zero, set_cons_succ, i64_w, i32_w]
                     rfl
                    refine pure_ (i := 11) (N := some 149) (v := ?_) (a' := ?_) #[true, true, true, true, true, true, true, true, true, true, true, true, false, false, false] rfl rfl (any_of HT_.out (by kernel_rfl)) (fun _ _ _ h => h) (Or.inl ⟨by rfl, ?_⟩) ?_ ?_
                    rotate_left
                    ·intro w'
                     go_simp
                     with_reducible rfl
                    rotate_left
                    ·simp only [Act.put, setIfInBounds_toArray, set_cons_zero, set_cons_succ, i64_w, i32_w]
                     rfl
                    refine pure_ (i := 12) (N := some 150) (v := ?_) (a' := ?_) #[true, true, true, true, true, true, true, true, true, true, true, true, true, false, false] rfl rfl (any_of HT_.out (by kernel_rfl)) (fun _ _ _ h => h) (Or.inl ⟨by rfl, ?_⟩) ?_ ?_
                    rotate_left
                    ·intro w'
                     go_simp
                     with_reducible rfl
                    rotate_left
                    ·simp only [Act.put, setIfInBounds_toArray, set_cons_zero, set_cons_succ, i64_w, i32_w]
                     rfl
                    refine pure_ (i := 13) (N := some 15) (v := ?_) (a' := ?_) #[true, true, true, true, true, true, true, true, true, true, true, true, true, true, false] rfl rfl (any_of HT_.out (by kernel_rfl)) (fun _ _ _ h => h) (Or.inl ⟨by rfl, ?_⟩) ?_ ?_
                    rotate_left
                    ·intro w'
                     go_simp
                     with_reducible rfl
                    rotate_left
                    ·simp only [Act.put, setIfInBounds_toArray, set_cons_zero, set_cons_succ, i64_w, i32_w]
                     rfl
                    refine pure_ (i := 14) (N := some 16) (v := ?_) (a' := ?_) #[true, true, true, true, true, true, true, true, true, true, true, true, true, true, true] rfl rfl (any_of HT_.out (by kernel_rfl)) (fun _ _ _ h => h) (Or.inl ⟨by rfl, ?_⟩) ?_ ?_
                    rotate_left
                    ·intro w'
                     go_simp
                     with_reducible rfl
                    rotate_left
                    ·simp only [Act.put, setIfInBounds_toArray, set_cons_zero, set_cons_succ, i64_w, i32_w]
                     rfl
                    refine done_ (done_of HT_.out (by kernel_rfl)) ?_
                    go_upto_region 23 with (fail)
                    go_cut [173] (fun v173 wc => ∃ (kq : Nat) (x173_74 : Bool), v173 = .bool x173_74 ∧ Aside0 (racewaylaw6_ResidualBack.j5 kq l0 y2159 x6_2 t2172 t2176 x14_4 x173_74 2 1 2 x2159003_2 = some r) ∧ Aside0 (kq ≤ kj46) ∧ Aside0 (Kd.R (Kd.int .i64) 2 wc w.heap.size (fun k_ => some k_ ≠ ((.slice (some ad2194) x6_2.length co36) : Value).ownBlock ∧ some k_ ≠ (v2173 : Value).ownBlock ∧ some k_ ≠ (v2177 : Value).ownBlock) (.slice Ao33 y2159.length co33) y2159) ∧ Aside0 (Kd.R (Kd.int .i64) 2 wc w.heap.size (fun k_ => some k_ ≠ ((.slice Ao33 y2159.length co33) : Value).ownBlock ∧ some k_ ≠ (v2173 : Value).ownBlock ∧ some k_ ≠ (v2177 : Value).ownBlock) (.slice (some ad2194) x6_2.length co36) x6_2) ∧ Aside0 (Kd.R (Kd.int .i64) 2 wc w.heap.size (fun k_ => some k_ ≠ ((.slice Ao33 y2159.length co33) : Value).ownBlock ∧ some k_ ≠ ((.slice (some ad2194) x6_2.length co36) : Value).ownBlock ∧ some k_ ≠ (v2177 : Value).ownBlock) v2173 t2172) ∧ Aside0 (Kd.R (Kd.int .i64) 2 wc w.heap.size (fun k_ => some k_ ≠ ((.slice Ao33 y2159.length co33) : Value).ownBlock ∧ some k_ ≠ ((.slice (some ad2194) x6_2.length co36) : Value).ownBlock ∧ some k_ ≠ (v2173 : Value).ownBlock) v2177 t2176) ∧ Aside0 (Kd.R k49 49 wc w.heap.size (fun _ => True) (.slice Ao32 x2159003_2.length co32) x2159003_2) ∧ Aside0 (wc.heap[gb2158]? = some (.cells #[.int .i64 2, .int .i64 1, .int .i64 2, (.slice Ao32 x2159003_2.length co32)] 27 (0, 0))) ∧ Aside0 (Below w.heap.size w wc))
                    case first =>
                     (have H := HC75.out);(clear HC75)
                     by_cases c81 : t2198 = 0
                     ·(rw [if_pos c81] at H);(have c81b0 : (t2198 == 0) = true := beq_iff_eq.mpr c81);(have c81b1 : (t2198 != 0) = false := bne_eq_false_iff_eq.mpr c81);(clear c81);((first | rw [c81b0] | (simp only [i64_w, i32_w]; rw [c81b0]) | skip))
                      by_cases c82 : (rd x6_2 x14_4) > 0
                      ·(rw [if_pos c82] at H);(have c82b0 : decide (0 < (rd x6_2 x14_4)) = true := decide_eq_true c82);(clear c82)
                       by_cases c83 : x14_4 < (t2195.length : Int)
                       ·(rw [if_pos c83] at H);(have c83b0 : decide (x14_4 < (t2195.length : Int)) = true := decide_eq_true c83);(clear c83)
                        as_aux_lemma =>
                         (have H' := Aside0.mk H);(clear H)
                         try go_wp2
                         (have n0_ := Aside0.mk (Kd.R_drew HO_5.out));(have n1_ := Aside0.mk (Kd.R_drew HO_6.out));(have n2_ := Aside0.mk (Kd.R_drew HO_8.out));(have n3_ := Aside0.mk (Kd.R_drew HO_10.out));(have n4_ := Aside0.mk (Kd.R_drew HO_2159003.out));(have n5_ := Aside0.mk (Kd.R_drew HO2193.out));(have n6_ := Aside0.mk (Kd.R_drew HO2197.out));(have n7_ := Aside0.mk (blk_drew BK2158.out));(have n8_ := Aside0.mk (below_drew1 HB.out));(clear HO_5);(clear HO_6);(clear HO_8);(clear HO_10);(clear HO_2159003);(clear HO2193);(clear HO2197);(clear BK2158);(clear HB);(have HO_5 := n0_);(have HO_6 := n1_);(have HO_8 := n2_);(have HO_10 := n3_);(have HO_2159003 := n4_);(have HO2193 := n5_);(have HO2197 := n6_);(have BK2158 := n7_);(have HB := n8_);(clear n0_ n1_ n2_ n3_ n4_ n5_ n6_ n7_ n8_);(have p2199 : 0 ≤ (x14_4 : Int) := of_decide_eq_true (by first | (with_reducible assumption) | assumption));(have q2199 : x14_4 < (x6_2.length : Int) := of_decide_eq_true (by first | (with_reducible assumption) | assumption));(obtain ⟨ad2199, e2199, hx2199_0⟩ := Kd.at_int (Kd.R_reads' HO_6.out).2.2 x14_4 p2199 q2199);(obtain rfl : ad2194 = ad2199 := (by injection e2199));(replace p2199 := eq_true p2199);(replace q2199 := eq_true q2199);(obtain ⟨Ao85, co85, eo85⟩ := Kd.R_slice HO2197.out);((first | subst eo85 | (injection eo85 with f1_ f2_ f3_; have f4_ := f1_.symm; have f5_ := f3_.symm; clear f1_ f2_ f3_; subst f4_; subst f5_)));(have p2200 : 0 ≤ (x14_4 : Int) := of_decide_eq_true (by first | (with_reducible assumption) | assumption));(have q2200 : x14_4 < (t2195.length : Int) := of_decide_eq_true (by first | (with_reducible assumption) | assumption));(obtain ⟨ad2200, e2200, hx2200_0⟩ := Kd.at_int (Kd.R_reads' HO2197.out).2.2 x14_4 p2200 q2200);(cases e2200);(replace p2200 := eq_true p2200);(replace q2200 := eq_true q2200);(have p2201 : 0 ≤ (x14_4 : Int) := of_decide_eq_true (by first | (with_reducible assumption) | assumption));(have q2201 : x14_4 < (x6_2.length : Int) := of_decide_eq_true (by first | (with_reducible assumption) | assumption));(obtain ⟨ad2201, e2201, hx2201_0⟩ := Kd.at_int (Kd.R_reads' HO_6.out).2.2 x14_4 p2201 q2201);(obtain rfl : ad2194 = ad2201 := (by injection e2201));(replace p2201 := eq_true p2201);(replace q2201 := eq_true q2201);(refine start_ (n := 23) (S := fun w' => w'.cell? (ad2194.add (x14_4).toNat) = some (.int .i64 (rd x6_2 x14_4)) ∧ w'.cell? (ad2200.add (x14_4).toNat) = some (.int .i64 (rd t2195 x14_4)) ∧ w'.cell? (ad2194.add (x14_4).toNat) = some (.int .i64 (rd x6_2 x14_4))) (ds := []) m41_ (by kernel_rfl) rfl rfl ⟨hx2199_0, hx2200_0, hx2201_0⟩ (fun hHeld => ?_); refine with_tabW racewaylaw6_ResidualBack.tab23 racewaylaw6_ResidualBack.bits23 (fun HT_ HW_ => ?_));(generalize w80.drew = w84 at HO_5 HO_6 HO_8 HO_10 HO_2159003 HO2193 HO2197 BK2158 HB hx2199_0 hx2200_0 hx2201_0 hHeld ⊢);(refine pure_ (i := 0) (N := some 151) (v := ?_) (a' := ?_) m42_ rfl rfl (any_of HT_.out (by kernel_rfl)) (fun _ _ _ h => h) (Or.inl ⟨by rfl, ?_⟩) ?_ ?_)
                         rotate_left
                         ·intro w'
                          go_simp
                          with_reducible rfl
                         rotate_left
                         ·simp only [Act.put, setIfInBounds_toArray, set_cons_zero, set_cons_succ, i64_w, i32_w]
                          rfl
                         refine pure_ (i := 1) (N := some 152) (v := ?_) (a' := ?_) m43_ rfl rfl (any_of HT_.out (by kernel_rfl)) (fun _ _ _ h => h) (Or.inl ⟨by rfl, ?_⟩) ?_ ?_
                         rotate_left
                         ·intro w'
                          go_simp
                          with_reducible rfl
                         rotate_left
                         ·simp only [Act.put, setIfInBounds_toArray, set_cons_zero, set_cons_succ, i64_w, i32_w]
                          rfl
                         refine pure_ (i := 2) (N := some 153) (v := ?_) (a' := ?_) m44_ rfl rfl (any_of HT_.out (by kernel_rfl)) (fun _ _ _ h => h) (Or.inl ⟨by rfl, ?_⟩) ?_ ?_
                         rotate_left
                         ·intro w'
                          go_simp
                          with_reducible rfl
                         rotate_left
                         ·simp only [Act.put, setIfInBounds_toArray, set_cons_zero, set_cons_succ, i64_w, i32_w]
                          rfl
                         refine pure_ (i := 3) (N := some 154) (v := ?_) (a' := ?_) m45_ rfl rfl (any_of HT_.out (by kernel_rfl)) (fun _ _ _ h => h) (Or.inl ⟨by rfl, ?_⟩) ?_ ?_
                         rotate_left
                         ·intro w'
                          go_simp
                          with_reducible rfl
                         rotate_left
                         ·simp only [Act.put, setIfInBounds_toArray, set_cons_zero, set_cons_succ, i64_w, i32_w]
                          rfl
                         refine pure_ (i := 4) (N := some 155) (v := ?_) (a' := ?_) m46_ rfl rfl (any_of HT_.out (by kernel_rfl)) (fun _ _ _ h => h) (Or.inl ⟨by rfl, ?_⟩) ?_ ?_
                         rotate_left
                         ·intro w'
                          go_simp
                          with_reducible rfl
                         rotate_left
                         ·simp only [Act.put, setIfInBounds_toArray, set_cons_zero, set_cons_succ, i64_w, i32_w]
                          rfl
                         refine take_ (i := 5) (N := some 156) (v := ?_) (a' := ?_) m47_ rfl rfl (take_ofW HT_.out HW_.out (by kernel_rfl)) (fun _ _ _ h => h) (Or.inl ⟨by rfl, ?_⟩) hHeld ?_ ?_
                         rotate_left
                         ·rintro w' ⟨s0, s1, s2⟩
                          go_simp
                          with_reducible rfl
                         rotate_left
                         ·simp only [Act.put, setIfInBounds_toArray, set_cons_zero, set_cons_succ, i64_w, i32_w]
                          rfl
                         refine pure_ (i := 6) (N := some 157) (v := ?_) (a' := ?_) m48_ rfl rfl (any_of HT_.out (by kernel_rfl)) (fun _ _ _ h => h) (Or.inl ⟨by rfl, ?_⟩) ?_ ?_
                         rotate_left
                         ·intro w'
                          go_simp
                          with_reducible rfl
                         rotate_left
                         ·simp only [Act.put, setIfInBounds_toArray, set_cons_zero, set_cons_succ, i64_w, i32_w]
                          rfl
                         refine pure_ (i := 7) (N := some 158) (v := ?_) (a' := ?_) m49_ rfl rfl (any_of HT_.out (by kernel_rfl)) (fun _ _ _ h => h) (Or.inl ⟨by rfl, ?_⟩) ?_ ?_
                         rotate_left
                         ·intro w'
                          go_simp
                          with_reducible rfl
                         rotate_left
                         ·simp only [Act.put, setIfInBounds_toArray, set_cons_zero, set_cons_succ, i64_w, i32_w]
                          rfl
                         refine pure_ (i := 8) (N := some 159) (v := ?_) (a' := ?_) m50_ rfl rfl (any_of HT_.out (by kernel_rfl)) (fun _ _ _ h => h) (Or.inl ⟨by rfl, ?_⟩) ?_ ?_
                         rotate_left
                         ·intro w'
                          go_simp
                          with_reducible rfl
                         rotate_left
                         ·simp only [Act.put, setIfInBounds_toArray, set_cons_zero, set_cons_succ, i64_w, i32_w]
                          rfl
                         refine pure_ (i := 9) (N := some 160) (v := ?_) (a' := ?_) m51_ rfl rfl (any_of HT_.out (by kernel_rfl)) (fun _ _ _ h => h) (Or.inl ⟨by rfl, ?_⟩) ?_ ?_
                         rotate_left
                         ·intro w'
                          go_simp
                          with_reducible rfl
                         rotate_left
                         ·simp only [Act.put, setIfInBounds_toArray, set_cons_zero, set_cons_succ, i64_w, i32_w]
                          rfl
                         refine pure_ (i := 10) (N := some 161) (v := ?_) (a' := ?_) m52_ rfl rfl (any_of HT_.out (by kernel_rfl)) (fun _ _ _ h => h) (Or.inl ⟨by rfl, ?_⟩) ?_ ?_
                         rotate_left
                         ·intro w'
                          go_simp
                          with_reducible rfl
                         rotate_left
                         ·simp only [Act.put, setIfInBounds_toArray, set_cons_zero, set_cons_succ, i64_w, i32_w]
                          rfl
                         refine pure_ (i := 11) (N := some 162) (v := ?_) (a' := ?_) m53_ rfl rfl (any_of HT_.out (by kernel_rfl)) (fun _ _ _ h => h) (Or.inl ⟨by rfl, ?_⟩) ?_ ?_
                         rotate_left
                         ·intro w'
                          go_simp
                          with_reducible rfl
                         rotate_left
                         ·simp only [Act.put, setIfInBounds_toArray, set_cons_zero, set_cons_succ, i64_w, i32_w]
                          rfl
                         refine pure_ (i := 12) (N := some 163) (v := ?_) (a' := ?_) m54_ rfl rfl (any_of HT_.out (by kernel_rfl)) (fun _ _ _ h => h) (Or.inl ⟨by rfl, ?_⟩) ?_ ?_
                         rotate_left
                         ·intro w'
                          go_simp
                          with_reducible rfl
                         rotate_left
                         ·simp only [Act.put, setIfInBounds_toArray, set_cons_zero, set_cons_succ, i64_w, i32_w]
                          rfl
                         refine pure_ (i := 13) (N := some 164) (v := ?_) (a' := ?_) m55_ rfl rfl (any_of HT_.out (by kernel_rfl)) (fun _ _ _ h => h) (Or.inl ⟨by rfl, ?_⟩) ?_ ?_
                         rotate_left
                         ·intro w'
                          go_simp
                          with_reducible rfl
                         rotate_left
                         ·simp only [Act.put, setIfInBounds_toArray, set_cons_zero, set_cons_succ, i64_w, i32_w]
                          rfl
                         refine pure_ (i := 14) (N := some 165) (v := ?_) (a' := ?_) m56_ rfl rfl (any_of HT_.out (by kernel_rfl)) (fun _ _ _ h => h) (Or.inl ⟨by rfl, ?_⟩) ?_ ?_
                         rotate_left
                         ·intro w'
                          go_simp
                          with_reducible rfl
                         rotate_left
                         ·simp only [Act.put, setIfInBounds_toArray, set_cons_zero, set_cons_succ, i64_w, i32_w]
                          rfl
                         refine pure_ (i := 16) (N := some 167) (v := ?_) (a' := ?_) #[true, true, true, true, true, true, true, true, true, true, true, true, true, true, true, false, true, false, false, false, false, false, false] rfl rfl (any_of HT_.out (by kernel_rfl)) (fun _ _ _ h => h) (Or.inl ⟨by rfl, ?_⟩) ?_ ?_
                         rotate_left
                         ·intro w'
                          go_simp
                          with_reducible rfl
                         rotate_left
                         ·simp only [Act.put, setIfInBounds_toArray, set_cons_zero, set_cons_succ, i64_w, i32_w]
                          rfl
                         refine pure_ (i := 17) (N := some 168) (v := ?_) (a' := ?_) #[true, true, true, true, true, true, true, true, true, true, true, true, true, true, true, false, true, true, false, false, false, false, false] rfl rfl (any_of HT_.out (by kernel_rfl)) (fun _ _ _ h => h) (Or.inl ⟨by rfl, ?_⟩) ?_ ?_
                         rotate_left
                         ·intro w'
                          go_simp
                          with_reducible rfl
                         rotate_left
                         ·simp only [Act.put, setIfInBounds_toArray, set_cons_zero, set_cons_succ, i64_w, i32_w]
                          rfl
                         refine pure_ (i := 18) (N := some 169) (v := ?_) (a' := ?_) #[true, true, true, true, true, true, true, true, true, true, true, true, true, true, true, false, true, true, true, false, false, false, false] rfl rfl (any_of HT_.out (by kernel_rfl)) (fun _ _ _ h => h) (Or.inl ⟨by rfl, ?_⟩) ?_ ?_
                         rotate_left
                         ·intro w'
                          go_simp
                          with_reducible rfl
                         rotate_left
                         ·simp only [Act.put, setIfInBounds_toArray, set_cons_zero, set_cons_succ, i64_w, i32_w]
                          rfl
                         refine take_ (i := 15) (N := some 166) (v := ?_) (a' := ?_) m57_ rfl rfl (take_ofW HT_.out HW_.out (by kernel_rfl)) (fun _ _ _ h => h) (Or.inl ⟨by rfl, ?_⟩) hHeld ?_ ?_
                         rotate_left
                         ·rintro w' ⟨s0, s1, s2⟩
                          go_simp
                          with_reducible rfl
                         rotate_left
                         ·simp only [Act.put, setIfInBounds_toArray, set_cons_zero, set_cons_succ, i64_w, i32_w]
                          rfl
                         refine take_ (i := 19) (N := some 170) (v := ?_) (a' := ?_) m58_ rfl rfl (take_ofW HT_.out HW_.out (by kernel_rfl)) (fun _ _ _ h => h) (Or.inl ⟨by rfl, ?_⟩) hHeld ?_ ?_
                         rotate_left
                         ·rintro w' ⟨s0, s1, s2⟩
                          go_simp
                          with_reducible rfl
                         rotate_left
                         ·simp only [Act.put, setIfInBounds_toArray, set_cons_zero, set_cons_succ, i64_w, i32_w]
                          rfl
                         refine pure_ (i := 20) (N := some 171) (v := ?_) (a' := ?_) m59_ rfl rfl (any_of HT_.out (by kernel_rfl)) (fun _ _ _ h => h) (Or.inl ⟨by rfl, ?_⟩) ?_ ?_
                         rotate_left
                         ·intro w'
                          go_simp
                          with_reducible rfl
                         rotate_left
                         ·simp only [Act.put, setIfInBounds_toArray, set_cons_zero, set_cons_succ, i64_w, i32_w]
                          rfl
                         refine pure_ (i := 21) (N := some 172) (v := ?_) (a' := ?_) m60_ rfl rfl (any_of HT_.out (by kernel_rfl)) (fun _ _ _ h => h) (Or.inl ⟨by rfl, ?_⟩) ?_ ?_
                         rotate_left
                         ·intro w'
                          go_simp
                          with_reducible rfl
                         rotate_left
                         ·simp only [Act.put, setIfInBounds_toArray, set_cons_zero, set_cons_succ, i64_w, i32_w]
                          rfl
                         refine pure_ (i := 22) (N := some 173) (v := ?_) (a' := ?_) m61_ rfl rfl (any_of HT_.out (by kernel_rfl)) (fun _ _ _ h => h) (Or.inl ⟨by rfl, ?_⟩) ?_ ?_
                         rotate_left
                         ·intro w'
                          go_simp
                          with_reducible rfl
                         rotate_left
                         ·simp only [Act.put, setIfInBounds_toArray, set_cons_zero, set_cons_succ, i64_w, i32_w]
                          rfl
                         refine done_ (done_of HT_.out (by kernel_rfl)) ?_
                         try go_wp2
                         go_meet
                         case rel => exact ⟨_, (((rd t2195 x14_4) != (rd x6_2 x14_4))), (by first | rfl | (simp; done) | (simp [*]; done)), H', ⟨by have := HJ2.out; have := HK2.out; have := HJ29.out; have := HK4.out; have := HJ46.out; first | omega | exact Nat.le_refl _⟩, ⟨by (with_reducible repeat first | apply Kd.R_alloc | apply Kd.R_drewN | apply Kd.R_drew); exact Kd.R_mono HO_5.out (fun _ hk => ⟨hk.1.1, ⟨hk.1.2.1, hk.1.2.2⟩⟩)⟩, ⟨by (with_reducible repeat first | apply Kd.R_alloc | apply Kd.R_drewN | apply Kd.R_drew); exact Kd.R_mono HO_6.out (fun _ hk => ⟨hk.1.1, ⟨hk.1.2.1, hk.1.2.2⟩⟩)⟩, ⟨by (with_reducible repeat first | apply Kd.R_alloc | apply Kd.R_drewN | apply Kd.R_drew); exact Kd.R_mono HO_8.out (fun _ hk => ⟨hk.1.1, ⟨hk.1.2.1, hk.1.2.2⟩⟩)⟩, ⟨by (with_reducible repeat first | apply Kd.R_alloc | apply Kd.R_drewN | apply Kd.R_drew); exact Kd.R_mono HO_10.out (fun _ hk => ⟨hk.1.1, ⟨hk.1.2.1, hk.1.2.2⟩⟩)⟩, ⟨by (with_reducible repeat first | apply Kd.R_alloc | apply Kd.R_drewN | apply Kd.R_drew); exact HO_2159003.out⟩, ⟨by (with_reducible repeat first | refine blk_drewN ?_ _ | refine blk_drew ?_ | refine blk_alloc ?_ _); exact BK2158.out⟩, ⟨by repeat (first | (with_reducible first | exact HB.out | apply below_alloc | apply pw_below_drewN | apply below_drew1 | refine below_set ?_ GE2158.out) | exact HB.out)⟩⟩
                       ·(rw [if_neg c83] at H);(exact absurd H (by simp))
                      ·(rw [if_neg c82] at H);(have c82b0 : decide (0 < (rd x6_2 x14_4)) = false := decide_eq_false c82);(clear c82)
                       as_aux_lemma =>
                        (have H' := Aside0.mk H);(clear H)
                        try go_wp2
                        (have n0_ := Aside0.mk (Kd.R_drew HO_5.out));(have n1_ := Aside0.mk (Kd.R_drew HO_6.out));(have n2_ := Aside0.mk (Kd.R_drew HO_8.out));(have n3_ := Aside0.mk (Kd.R_drew HO_10.out));(have n4_ := Aside0.mk (Kd.R_drew HO_2159003.out));(have n5_ := Aside0.mk (Kd.R_drew HO2193.out));(have n6_ := Aside0.mk (Kd.R_drew HO2197.out));(have n7_ := Aside0.mk (blk_drew BK2158.out));(have n8_ := Aside0.mk (below_drew1 HB.out));(clear HO_5);(clear HO_6);(clear HO_8);(clear HO_10);(clear HO_2159003);(clear HO2193);(clear HO2197);(clear BK2158);(clear HB);(have HO_5 := n0_);(have HO_6 := n1_);(have HO_8 := n2_);(have HO_10 := n3_);(have HO_2159003 := n4_);(have HO2193 := n5_);(have HO2197 := n6_);(have BK2158 := n7_);(have HB := n8_);(clear n0_ n1_ n2_ n3_ n4_ n5_ n6_ n7_ n8_);(have p2199 : 0 ≤ (x14_4 : Int) := of_decide_eq_true (by first | (with_reducible assumption) | assumption));(have q2199 : x14_4 < (x6_2.length : Int) := of_decide_eq_true (by first | (with_reducible assumption) | assumption));(obtain ⟨ad2199, e2199, hx2199_0⟩ := Kd.at_int (Kd.R_reads' HO_6.out).2.2 x14_4 p2199 q2199);(obtain rfl : ad2194 = ad2199 := (by injection e2199));(replace p2199 := eq_true p2199);(replace q2199 := eq_true q2199);(refine start_ (n := 23) (S := fun w' => w'.cell? (ad2194.add (x14_4).toNat) = some (.int .i64 (rd x6_2 x14_4))) (ds := []) m41_ (by kernel_rfl) rfl rfl (hx2199_0) (fun hHeld => ?_); refine with_tabW racewaylaw6_ResidualBack.tab23 racewaylaw6_ResidualBack.bits23 (fun HT_ HW_ => ?_));(generalize w80.drew = w86 at HO_5 HO_6 HO_8 HO_10 HO_2159003 HO2193 HO2197 BK2158 HB hx2199_0 hHeld ⊢);(refine pure_ (i := 0) (N := some 151) (v := ?_) (a' := ?_) m42_ rfl rfl (any_of HT_.out (by kernel_rfl)) (fun _ _ _ h => h) (Or.inl ⟨by rfl, ?_⟩) ?_ ?_)
                        rotate_left
                        ·intro w'
                         go_simp
                         with_reducible rfl
                        rotate_left
                        ·simp only [Act.put, setIfInBounds_toArray, set_cons_zero, set_cons_succ, i64_w, i32_w]
                         rfl
                        refine pure_ (i := 1) (N := some 152) (v := ?_) (a' := ?_) m43_ rfl rfl (any_of HT_.out (by kernel_rfl)) (fun _ _ _ h => h) (Or.inl ⟨by rfl, ?_⟩) ?_ ?_
                        rotate_left
                        ·intro w'
                         go_simp
                         with_reducible rfl
                        rotate_left
                        ·simp only [Act.put, setIfInBounds_toArray, set_cons_zero, set_cons_succ, i64_w, i32_w]
                         rfl
                        refine pure_ (i := 2) (N := some 153) (v := ?_) (a' := ?_) m44_ rfl rfl (any_of HT_.out (by kernel_rfl)) (fun _ _ _ h => h) (Or.inl ⟨by rfl, ?_⟩) ?_ ?_
                        rotate_left
                        ·intro w'
                         go_simp
                         with_reducible rfl
                        rotate_left
                        ·simp only [Act.put, setIfInBounds_toArray, set_cons_zero, set_cons_succ, i64_w, i32_w]
                         rfl
                        refine pure_ (i := 3) (N := some 154) (v := ?_) (a' := ?_) m45_ rfl rfl (any_of HT_.out (by kernel_rfl)) (fun _ _ _ h => h) (Or.inl ⟨by rfl, ?_⟩) ?_ ?_
                        rotate_left
                        ·intro w'
                         go_simp
                         with_reducible rfl
                        rotate_left
                        ·simp only [Act.put, setIfInBounds_toArray, set_cons_zero, set_cons_succ, i64_w, i32_w]
                         rfl
                        refine pure_ (i := 4) (N := some 155) (v := ?_) (a' := ?_) m46_ rfl rfl (any_of HT_.out (by kernel_rfl)) (fun _ _ _ h => h) (Or.inl ⟨by rfl, ?_⟩) ?_ ?_
                        rotate_left
                        ·intro w'
                         go_simp
                         with_reducible rfl
                        rotate_left
                        ·simp only [Act.put, setIfInBounds_toArray, set_cons_zero, set_cons_succ, i64_w, i32_w]
                         rfl
                        refine take_ (i := 5) (N := some 156) (v := ?_) (a' := ?_) m47_ rfl rfl (take_ofW HT_.out HW_.out (by kernel_rfl)) (fun _ _ _ h => h) (Or.inl ⟨by rfl, ?_⟩) hHeld ?_ ?_
                        rotate_left
                        ·intro w' s0
                         go_simp
                         with_reducible rfl
                        rotate_left
                        ·simp only [Act.put, setIfInBounds_toArray, set_cons_zero, set_cons_succ, i64_w, i32_w]
                         rfl
                        refine pure_ (i := 6) (N := some 157) (v := ?_) (a' := ?_) m48_ rfl rfl (any_of HT_.out (by kernel_rfl)) (fun _ _ _ h => h) (Or.inl ⟨by rfl, ?_⟩) ?_ ?_
                        rotate_left
                        ·intro w'
                         go_simp
                         with_reducible rfl
                        rotate_left
                        ·simp only [Act.put, setIfInBounds_toArray, set_cons_zero, set_cons_succ, i64_w, i32_w]
                         rfl
                        refine pure_ (i := 7) (N := some 158) (v := ?_) (a' := ?_) m49_ rfl rfl (any_of HT_.out (by kernel_rfl)) (fun _ _ _ h => h) (Or.inl ⟨by rfl, ?_⟩) ?_ ?_
                        rotate_left
                        ·intro w'
                         go_simp
                         with_reducible rfl
                        rotate_left
                        ·simp only [Act.put, setIfInBounds_toArray, set_cons_zero, set_cons_succ, i64_w, i32_w]
                         rfl
                        refine pure_ (i := 8) (N := some 159) (v := ?_) (a' := ?_) m50_ rfl rfl (any_of HT_.out (by kernel_rfl)) (fun _ _ _ h => h) (Or.inl ⟨by rfl, ?_⟩) ?_ ?_
                        rotate_left
                        ·intro w'
                         go_simp
                         with_reducible rfl
                        rotate_left
                        ·simp only [Act.put, setIfInBounds_toArray, set_cons_zero, set_cons_succ, i64_w, i32_w]
                         rfl
                        refine pure_ (i := 9) (N := some 160) (v := undef) (a' := ?_) m51_ rfl rfl (any_of HT_.out (by kernel_rfl)) (fun _ _ _ h => h) (Or.inr ⟨by rfl, rfl⟩) ?_ ?_
                        rotate_left
                        ·simp only [Act.put, setIfInBounds_toArray, set_cons_zero, set_cons_succ, i64_w, i32_w]
                         rfl
                        refine pure_ (i := 10) (N := some 161) (v := undef) (a' := ?_) m52_ rfl rfl (any_of HT_.out (by kernel_rfl)) (fun _ _ _ h => h) (Or.inr ⟨by rfl, rfl⟩) ?_ ?_
                        rotate_left
                        ·simp only [Act.put, setIfInBounds_toArray, set_cons_zero, set_cons_succ, i64_w, i32_w]
                         rfl
                        refine pure_ (i := 11) (N := some 162) (v := undef) (a' := ?_) m53_ rfl rfl (any_of HT_.out (by kernel_rfl)) (fun _ _ _ h => h) (Or.inr ⟨by rfl, rfl⟩) ?_ ?_
                        rotate_left
                        ·simp only [Act.put, setIfInBounds_toArray, set_cons_zero, set_cons_succ, i64_w, i32_w]
                         rfl
                        refine pure_ (i := 12) (N := some 163) (v := undef) (a' := ?_) m54_ rfl rfl (any_of HT_.out (by kernel_rfl)) (fun _ _ _ h => h) (Or.inr ⟨by rfl, rfl⟩) ?_ ?_
                        rotate_left
                        ·simp only [Act.put, setIfInBounds_toArray, set_cons_zero, set_cons_succ, i64_w, i32_w]
                         rfl
                        refine pure_ (i := 13) (N := some 164) (v := undef) (a' := ?_) m55_ rfl rfl (any_of HT_.out (by kernel_rfl)) (fun _ _ _ h => h) (Or.inr ⟨by rfl, rfl⟩) ?_ ?_
                        rotate_left
                        ·simp only [Act.put, setIfInBounds_toArray, set_cons_zero, set_cons_succ, i64_w, i32_w]
                         rfl
                        refine pure_ (i := 14) (N := some 165) (v := undef) (a' := ?_) m56_ rfl rfl (any_of HT_.out (by kernel_rfl)) (fun _ _ _ h => h) (Or.inr ⟨by rfl, rfl⟩) ?_ ?_
                        rotate_left
                        ·simp only [Act.put, setIfInBounds_toArray, set_cons_zero, set_cons_succ, i64_w, i32_w]
                         rfl
                        refine pure_ (i := 15) (N := some 166) (v := undef) (a' := ?_) m62_ rfl rfl (any_of HT_.out (by kernel_rfl)) (fun _ _ _ h => h) (Or.inr ⟨by rfl, rfl⟩) ?_ ?_
                        rotate_left
                        ·simp only [Act.put, setIfInBounds_toArray, set_cons_zero, set_cons_succ, i64_w, i32_w]
                         rfl
                        refine pure_ (i := 16) (N := some 167) (v := undef) (a' := ?_) m63_ rfl rfl (any_of HT_.out (by kernel_rfl)) (fun _ _ _ h => h) (Or.inr ⟨by rfl, rfl⟩) ?_ ?_
                        rotate_left
                        ·simp only [Act.put, setIfInBounds_toArray, set_cons_zero, set_cons_succ, i64_w, i32_w]
                         rfl
                        refine pure_ (i := 17) (N := some 168) (v := undef) (a' := ?_) m64_ rfl rfl (any_of HT_.out (by kernel_rfl)) (fun _ _ _ h => h) (Or.inr ⟨by rfl, rfl⟩) ?_ ?_
                        rotate_left
                        ·simp only [Act.put, setIfInBounds_toArray, set_cons_zero, set_cons_succ, i64_w, i32_w]
                         rfl
                        refine pure_ (i := 18) (N := some 169) (v := undef) (a' := ?_) m57_ rfl rfl (any_of HT_.out (by kernel_rfl)) (fun _ _ _ h => h) (Or.inr ⟨by rfl, rfl⟩) ?_ ?_
                        rotate_left
                        ·simp only [Act.put, setIfInBounds_toArray, set_cons_zero, set_cons_succ, i64_w, i32_w]
                         rfl
                        refine pure_ (i := 19) (N := some 170) (v := undef) (a' := ?_) m58_ rfl rfl (any_of HT_.out (by kernel_rfl)) (fun _ _ _ h => h) (Or.inr ⟨by rfl, rfl⟩) ?_ ?_
                        rotate_left
                        ·simp only [Act.put, setIfInBounds_toArray, set_cons_zero, set_cons_succ, i64_w, i32_w]
                         rfl
                        refine pure_ (i := 20) (N := some 171) (v := undef) (a' := ?_) m59_ rfl rfl (any_of HT_.out (by kernel_rfl)) (fun _ _ _ h => h) (Or.inr ⟨by rfl, rfl⟩) ?_ ?_
                        rotate_left
                        ·simp only [Act.put, setIfInBounds_toArray, set_cons_zero, set_cons_succ, i64_w, i32_w]
                         rfl
                        refine pure_ (i := 21) (N := some 172) (v := undef) (a' := ?_) m60_ rfl rfl (any_of HT_.out (by kernel_rfl)) (fun _ _ _ h => h) (Or.inr ⟨by rfl, rfl⟩) ?_ ?_
                        rotate_left
                        ·simp only [Act.put, setIfInBounds_toArray, set_cons_zero, set_cons_succ, i64_w, i32_w]
                         rfl
                        refine pure_ (i := 22) (N := some 173) (v := ?_) (a' := ?_) m61_ rfl rfl (any_of HT_.out (by kernel_rfl)) (fun _ _ _ h => h) (Or.inl ⟨by rfl, ?_⟩) ?_ ?_
                        rotate_left
                        ·intro w'
                         go_simp
                         with_reducible rfl
                        rotate_left
                        ·simp only [Act.put, setIfInBounds_toArray, set_cons_zero, set_cons_succ, i64_w, i32_w]
                         rfl
                        refine done_ (done_of HT_.out (by kernel_rfl)) ?_
                        try go_wp2
                        go_meet
                        case rel => exact ⟨_, (true), (by first | rfl | (simp; done) | (simp [*]; done)), H', ⟨by have := HJ2.out; have := HK2.out; have := HJ29.out; have := HK4.out; have := HJ46.out; first | omega | exact Nat.le_refl _⟩, ⟨by (with_reducible repeat first | apply Kd.R_alloc | apply Kd.R_drewN | apply Kd.R_drew); exact Kd.R_mono HO_5.out (fun _ hk => ⟨hk.1.1, ⟨hk.1.2.1, hk.1.2.2⟩⟩)⟩, ⟨by (with_reducible repeat first | apply Kd.R_alloc | apply Kd.R_drewN | apply Kd.R_drew); exact Kd.R_mono HO_6.out (fun _ hk => ⟨hk.1.1, ⟨hk.1.2.1, hk.1.2.2⟩⟩)⟩, ⟨by (with_reducible repeat first | apply Kd.R_alloc | apply Kd.R_drewN | apply Kd.R_drew); exact Kd.R_mono HO_8.out (fun _ hk => ⟨hk.1.1, ⟨hk.1.2.1, hk.1.2.2⟩⟩)⟩, ⟨by (with_reducible repeat first | apply Kd.R_alloc | apply Kd.R_drewN | apply Kd.R_drew); exact Kd.R_mono HO_10.out (fun _ hk => ⟨hk.1.1, ⟨hk.1.2.1, hk.1.2.2⟩⟩)⟩, ⟨by (with_reducible repeat first | apply Kd.R_alloc | apply Kd.R_drewN | apply Kd.R_drew); exact HO_2159003.out⟩, ⟨by (with_reducible repeat first | refine blk_drewN ?_ _ | refine blk_drew ?_ | refine blk_alloc ?_ _); exact BK2158.out⟩, ⟨by repeat (first | (with_reducible first | exact HB.out | apply below_alloc | apply pw_below_drewN | apply below_drew1 | refine below_set ?_ GE2158.out) | exact HB.out)⟩⟩
                     ·(rw [if_neg c81] at H);(have c81b0 : (t2198 == 0) = false := beq_eq_false_iff_ne.mpr c81);(have c81b1 : (t2198 != 0) = true := bne_iff_ne.mpr c81);((first | rw [c81b0] | (simp only [i64_w, i32_w]; rw [c81b0]) | skip))
                      by_cases c87 : (rd x6_2 x14_4) > 0
                      ·(rw [if_pos c87] at H);(have c87b0 : decide (0 < (rd x6_2 x14_4)) = true := decide_eq_true c87);(clear c87)
                       as_aux_lemma =>
                        (have H' := Aside0.mk H);(clear H)
                        try go_wp2
                        (have n0_ := Aside0.mk (Kd.R_drew HO_5.out));(have n1_ := Aside0.mk (Kd.R_drew HO_6.out));(have n2_ := Aside0.mk (Kd.R_drew HO_8.out));(have n3_ := Aside0.mk (Kd.R_drew HO_10.out));(have n4_ := Aside0.mk (Kd.R_drew HO_2159003.out));(have n5_ := Aside0.mk (Kd.R_drew HO2193.out));(have n6_ := Aside0.mk (Kd.R_drew HO2197.out));(have n7_ := Aside0.mk (blk_drew BK2158.out));(have n8_ := Aside0.mk (below_drew1 HB.out));(clear HO_5);(clear HO_6);(clear HO_8);(clear HO_10);(clear HO_2159003);(clear HO2193);(clear HO2197);(clear BK2158);(clear HB);(have HO_5 := n0_);(have HO_6 := n1_);(have HO_8 := n2_);(have HO_10 := n3_);(have HO_2159003 := n4_);(have HO2193 := n5_);(have HO2197 := n6_);(have BK2158 := n7_);(have HB := n8_);(clear n0_ n1_ n2_ n3_ n4_ n5_ n6_ n7_ n8_);(have p2199 : 0 ≤ (x14_4 : Int) := of_decide_eq_true (by first | (with_reducible assumption) | assumption));(have q2199 : x14_4 < (x6_2.length : Int) := of_decide_eq_true (by first | (with_reducible assumption) | assumption));(obtain ⟨ad2199, e2199, hx2199_0⟩ := Kd.at_int (Kd.R_reads' HO_6.out).2.2 x14_4 p2199 q2199);(obtain rfl : ad2194 = ad2199 := (by injection e2199));(replace p2199 := eq_true p2199);(replace q2199 := eq_true q2199);(refine start_ (n := 23) (S := fun w' => w'.cell? (ad2194.add (x14_4).toNat) = some (.int .i64 (rd x6_2 x14_4))) (ds := []) m41_ (by kernel_rfl) rfl rfl (hx2199_0) (fun hHeld => ?_); refine with_tabW racewaylaw6_ResidualBack.tab23 racewaylaw6_ResidualBack.bits23 (fun HT_ HW_ => ?_));(generalize w80.drew = w88 at HO_5 HO_6 HO_8 HO_10 HO_2159003 HO2193 HO2197 BK2158 HB hx2199_0 hHeld ⊢);(refine pure_ (i := 0) (N := some 151) (v := ?_) (a' := ?_) m42_ rfl rfl (any_of HT_.out (by kernel_rfl)) (fun _ _ _ h => h) (Or.inl ⟨by rfl, ?_⟩) ?_ ?_)
                        rotate_left
                        ·intro w'
                         go_simp
                         with_reducible rfl
                        rotate_left
                        ·simp only [Act.put, setIfInBounds_toArray, set_cons_zero, set_cons_succ, i64_w, i32_w]
                         rfl
                        refine pure_ (i := 1) (N := some 152) (v := ?_) (a' := ?_) m43_ rfl rfl (any_of HT_.out (by kernel_rfl)) (fun _ _ _ h => h) (Or.inl ⟨by rfl, ?_⟩) ?_ ?_
                        rotate_left
                        ·intro w'
                         go_simp
                         with_reducible rfl
                        rotate_left
                        ·simp only [Act.put, setIfInBounds_toArray, set_cons_zero, set_cons_succ, i64_w, i32_w]
                         rfl
                        refine pure_ (i := 2) (N := some 153) (v := ?_) (a' := ?_) m44_ rfl rfl (any_of HT_.out (by kernel_rfl)) (fun _ _ _ h => h) (Or.inl ⟨by rfl, ?_⟩) ?_ ?_
                        rotate_left
                        ·intro w'
                         go_simp
                         with_reducible rfl
                        rotate_left
                        ·simp only [Act.put, setIfInBounds_toArray, set_cons_zero, set_cons_succ, i64_w, i32_w]
                         rfl
                        refine pure_ (i := 3) (N := some 154) (v := ?_) (a' := ?_) m45_ rfl rfl (any_of HT_.out (by kernel_rfl)) (fun _ _ _ h => h) (Or.inl ⟨by rfl, ?_⟩) ?_ ?_
                        rotate_left
                        ·intro w'
                         go_simp
                         with_reducible rfl
                        rotate_left
                        ·simp only [Act.put, setIfInBounds_toArray, set_cons_zero, set_cons_succ, i64_w, i32_w]
                         rfl
                        refine pure_ (i := 4) (N := some 155) (v := ?_) (a' := ?_) m46_ rfl rfl (any_of HT_.out (by kernel_rfl)) (fun _ _ _ h => h) (Or.inl ⟨by rfl, ?_⟩) ?_ ?_
                        rotate_left
                        ·intro w'
                         go_simp
                         with_reducible rfl
                        rotate_left
                        ·simp only [Act.put, setIfInBounds_toArray, set_cons_zero, set_cons_succ, i64_w, i32_w]
                         rfl
                        refine take_ (i := 5) (N := some 156) (v := ?_) (a' := ?_) m47_ rfl rfl (take_ofW HT_.out HW_.out (by kernel_rfl)) (fun _ _ _ h => h) (Or.inl ⟨by rfl, ?_⟩) hHeld ?_ ?_
                        rotate_left
                        ·intro w' s0
                         go_simp
                         with_reducible rfl
                        rotate_left
                        ·simp only [Act.put, setIfInBounds_toArray, set_cons_zero, set_cons_succ, i64_w, i32_w]
                         rfl
                        refine pure_ (i := 6) (N := some 157) (v := ?_) (a' := ?_) m48_ rfl rfl (any_of HT_.out (by kernel_rfl)) (fun _ _ _ h => h) (Or.inl ⟨by rfl, ?_⟩) ?_ ?_
                        rotate_left
                        ·intro w'
                         go_simp
                         with_reducible rfl
                        rotate_left
                        ·simp only [Act.put, setIfInBounds_toArray, set_cons_zero, set_cons_succ, i64_w, i32_w]
                         rfl
                        refine pure_ (i := 7) (N := some 158) (v := ?_) (a' := ?_) m49_ rfl rfl (any_of HT_.out (by kernel_rfl)) (fun _ _ _ h => h) (Or.inl ⟨by rfl, ?_⟩) ?_ ?_
                        rotate_left
                        ·intro w'
                         go_simp
                         with_reducible rfl
                        rotate_left
                        ·simp only [Act.put, setIfInBounds_toArray, set_cons_zero, set_cons_succ, i64_w, i32_w]
                         rfl
                        refine pure_ (i := 8) (N := some 159) (v := ?_) (a' := ?_) m50_ rfl rfl (any_of HT_.out (by kernel_rfl)) (fun _ _ _ h => h) (Or.inl ⟨by rfl, ?_⟩) ?_ ?_
                        rotate_left
                        ·intro w'
                         go_simp
                         with_reducible rfl
                        rotate_left
                        ·simp only [Act.put, setIfInBounds_toArray, set_cons_zero, set_cons_succ, i64_w, i32_w]
                         rfl
                        refine pure_ (i := 9) (N := some 160) (v := undef) (a' := ?_) m51_ rfl rfl (any_of HT_.out (by kernel_rfl)) (fun _ _ _ h => h) (Or.inr ⟨by rfl, rfl⟩) ?_ ?_
                        rotate_left
                        ·simp only [Act.put, setIfInBounds_toArray, set_cons_zero, set_cons_succ, i64_w, i32_w]
                         rfl
                        refine pure_ (i := 10) (N := some 161) (v := undef) (a' := ?_) m52_ rfl rfl (any_of HT_.out (by kernel_rfl)) (fun _ _ _ h => h) (Or.inr ⟨by rfl, rfl⟩) ?_ ?_
                        rotate_left
                        ·simp only [Act.put, setIfInBounds_toArray, set_cons_zero, set_cons_succ, i64_w, i32_w]
                         rfl
                        refine pure_ (i := 11) (N := some 162) (v := undef) (a' := ?_) m53_ rfl rfl (any_of HT_.out (by kernel_rfl)) (fun _ _ _ h => h) (Or.inr ⟨by rfl, rfl⟩) ?_ ?_
                        rotate_left
                        ·simp only [Act.put, setIfInBounds_toArray, set_cons_zero, set_cons_succ, i64_w, i32_w]
                         rfl
                        refine pure_ (i := 12) (N := some 163) (v := undef) (a' := ?_) m54_ rfl rfl (any_of HT_.out (by kernel_rfl)) (fun _ _ _ h => h) (Or.inr ⟨by rfl, rfl⟩) ?_ ?_
                        rotate_left
                        ·simp only [Act.put, setIfInBounds_toArray, set_cons_zero, set_cons_succ, i64_w, i32_w]
                         rfl
                        refine pure_ (i := 13) (N := some 164) (v := undef) (a' := ?_) m55_ rfl rfl (any_of HT_.out (by kernel_rfl)) (fun _ _ _ h => h) (Or.inr ⟨by rfl, rfl⟩) ?_ ?_
                        rotate_left
                        ·simp only [Act.put, setIfInBounds_toArray, set_cons_zero, set_cons_succ, i64_w, i32_w]
                         rfl
                        refine pure_ (i := 14) (N := some 165) (v := undef) (a' := ?_) m56_ rfl rfl (any_of HT_.out (by kernel_rfl)) (fun _ _ _ h => h) (Or.inr ⟨by rfl, rfl⟩) ?_ ?_
                        rotate_left
                        ·simp only [Act.put, setIfInBounds_toArray, set_cons_zero, set_cons_succ, i64_w, i32_w]
                         rfl
                        refine pure_ (i := 15) (N := some 166) (v := undef) (a' := ?_) m62_ rfl rfl (any_of HT_.out (by kernel_rfl)) (fun _ _ _ h => h) (Or.inr ⟨by rfl, rfl⟩) ?_ ?_
                        rotate_left
                        ·simp only [Act.put, setIfInBounds_toArray, set_cons_zero, set_cons_succ, i64_w, i32_w]
                         rfl
                        refine pure_ (i := 16) (N := some 167) (v := undef) (a' := ?_) m63_ rfl rfl (any_of HT_.out (by kernel_rfl)) (fun _ _ _ h => h) (Or.inr ⟨by rfl, rfl⟩) ?_ ?_
                        rotate_left
                        ·simp only [Act.put, setIfInBounds_toArray, set_cons_zero, set_cons_succ, i64_w, i32_w]
                         rfl
                        refine pure_ (i := 17) (N := some 168) (v := undef) (a' := ?_) m64_ rfl rfl (any_of HT_.out (by kernel_rfl)) (fun _ _ _ h => h) (Or.inr ⟨by rfl, rfl⟩) ?_ ?_
                        rotate_left
                        ·simp only [Act.put, setIfInBounds_toArray, set_cons_zero, set_cons_succ, i64_w, i32_w]
                         rfl
                        refine pure_ (i := 18) (N := some 169) (v := undef) (a' := ?_) m57_ rfl rfl (any_of HT_.out (by kernel_rfl)) (fun _ _ _ h => h) (Or.inr ⟨by rfl, rfl⟩) ?_ ?_
                        rotate_left
                        ·simp only [Act.put, setIfInBounds_toArray, set_cons_zero, set_cons_succ, i64_w, i32_w]
                         rfl
                        refine pure_ (i := 19) (N := some 170) (v := undef) (a' := ?_) m58_ rfl rfl (any_of HT_.out (by kernel_rfl)) (fun _ _ _ h => h) (Or.inr ⟨by rfl, rfl⟩) ?_ ?_
                        rotate_left
                        ·simp only [Act.put, setIfInBounds_toArray, set_cons_zero, set_cons_succ, i64_w, i32_w]
                         rfl
                        refine pure_ (i := 20) (N := some 171) (v := undef) (a' := ?_) m59_ rfl rfl (any_of HT_.out (by kernel_rfl)) (fun _ _ _ h => h) (Or.inr ⟨by rfl, rfl⟩) ?_ ?_
                        rotate_left
                        ·simp only [Act.put, setIfInBounds_toArray, set_cons_zero, set_cons_succ, i64_w, i32_w]
                         rfl
                        refine pure_ (i := 21) (N := some 172) (v := undef) (a' := ?_) m60_ rfl rfl (any_of HT_.out (by kernel_rfl)) (fun _ _ _ h => h) (Or.inr ⟨by rfl, rfl⟩) ?_ ?_
                        rotate_left
                        ·simp only [Act.put, setIfInBounds_toArray, set_cons_zero, set_cons_succ, i64_w, i32_w]
                         rfl
                        refine pure_ (i := 22) (N := some 173) (v := ?_) (a' := ?_) m61_ rfl rfl (any_of HT_.out (by kernel_rfl)) (fun _ _ _ h => h) (Or.inl ⟨by rfl, ?_⟩) ?_ ?_
                        rotate_left
                        ·intro w'
                         go_simp
                         with_reducible rfl
                        rotate_left
                        ·simp only [Act.put, setIfInBounds_toArray, set_cons_zero, set_cons_succ, i64_w, i32_w]
                         rfl
                        refine done_ (done_of HT_.out (by kernel_rfl)) ?_
                        try go_wp2
                        go_meet
                        case rel => exact ⟨_, (true), (by first | rfl | (simp; done) | (simp [*]; done)), H', ⟨by have := HJ2.out; have := HK2.out; have := HJ29.out; have := HK4.out; have := HJ46.out; first | omega | exact Nat.le_refl _⟩, ⟨by (with_reducible repeat first | apply Kd.R_alloc | apply Kd.R_drewN | apply Kd.R_drew); exact Kd.R_mono HO_5.out (fun _ hk => ⟨hk.1.1, ⟨hk.1.2.1, hk.1.2.2⟩⟩)⟩, ⟨by (with_reducible repeat first | apply Kd.R_alloc | apply Kd.R_drewN | apply Kd.R_drew); exact Kd.R_mono HO_6.out (fun _ hk => ⟨hk.1.1, ⟨hk.1.2.1, hk.1.2.2⟩⟩)⟩, ⟨by (with_reducible repeat first | apply Kd.R_alloc | apply Kd.R_drewN | apply Kd.R_drew); exact Kd.R_mono HO_8.out (fun _ hk => ⟨hk.1.1, ⟨hk.1.2.1, hk.1.2.2⟩⟩)⟩, ⟨by (with_reducible repeat first | apply Kd.R_alloc | apply Kd.R_drewN | apply Kd.R_drew); exact Kd.R_mono HO_10.out (fun _ hk => ⟨hk.1.1, ⟨hk.1.2.1, hk.1.2.2⟩⟩)⟩, ⟨by (with_reducible repeat first | apply Kd.R_alloc | apply Kd.R_drewN | apply Kd.R_drew); exact HO_2159003.out⟩, ⟨by (with_reducible repeat first | refine blk_drewN ?_ _ | refine blk_drew ?_ | refine blk_alloc ?_ _); exact BK2158.out⟩, ⟨by repeat (first | (with_reducible first | exact HB.out | apply below_alloc | apply pw_below_drewN | apply below_drew1 | refine below_set ?_ GE2158.out) | exact HB.out)⟩⟩
                      ·(rw [if_neg c87] at H);(have c87b0 : decide (0 < (rd x6_2 x14_4)) = false := decide_eq_false c87);(clear c87)
                       as_aux_lemma =>
                        (have H' := Aside0.mk H);(clear H)
                        try go_wp2
                        (have n0_ := Aside0.mk (Kd.R_drew HO_5.out));(have n1_ := Aside0.mk (Kd.R_drew HO_6.out));(have n2_ := Aside0.mk (Kd.R_drew HO_8.out));(have n3_ := Aside0.mk (Kd.R_drew HO_10.out));(have n4_ := Aside0.mk (Kd.R_drew HO_2159003.out));(have n5_ := Aside0.mk (Kd.R_drew HO2193.out));(have n6_ := Aside0.mk (Kd.R_drew HO2197.out));(have n7_ := Aside0.mk (blk_drew BK2158.out));(have n8_ := Aside0.mk (below_drew1 HB.out));(clear HO_5);(clear HO_6);(clear HO_8);(clear HO_10);(clear HO_2159003);(clear HO2193);(clear HO2197);(clear BK2158);(clear HB);(have HO_5 := n0_);(have HO_6 := n1_);(have HO_8 := n2_);(have HO_10 := n3_);(have HO_2159003 := n4_);(have HO2193 := n5_);(have HO2197 := n6_);(have BK2158 := n7_);(have HB := n8_);(clear n0_ n1_ n2_ n3_ n4_ n5_ n6_ n7_ n8_);(have p2199 : 0 ≤ (x14_4 : Int) := of_decide_eq_true (by first | (with_reducible assumption) | assumption));(have q2199 : x14_4 < (x6_2.length : Int) := of_decide_eq_true (by first | (with_reducible assumption) | assumption));(obtain ⟨ad2199, e2199, hx2199_0⟩ := Kd.at_int (Kd.R_reads' HO_6.out).2.2 x14_4 p2199 q2199);(obtain rfl : ad2194 = ad2199 := (by injection e2199));(replace p2199 := eq_true p2199);(replace q2199 := eq_true q2199);(refine start_ (n := 23) (S := fun w' => w'.cell? (ad2194.add (x14_4).toNat) = some (.int .i64 (rd x6_2 x14_4))) (ds := []) m41_ (by kernel_rfl) rfl rfl (hx2199_0) (fun hHeld => ?_); refine with_tabW racewaylaw6_ResidualBack.tab23 racewaylaw6_ResidualBack.bits23 (fun HT_ HW_ => ?_));(generalize w80.drew = w89 at HO_5 HO_6 HO_8 HO_10 HO_2159003 HO2193 HO2197 BK2158 HB hx2199_0 hHeld ⊢);(refine pure_ (i := 0) (N := some 151) (v := ?_) (a' := ?_) m42_ rfl rfl (any_of HT_.out (by kernel_rfl)) (fun _ _ _ h => h) (Or.inl ⟨by rfl, ?_⟩) ?_ ?_)
                        rotate_left
                        ·intro w'
                         go_simp
                         with_reducible rfl
                        rotate_left
                        ·simp only [Act.put, setIfInBounds_toArray, set_cons_zero, set_cons_succ, i64_w, i32_w]
                         rfl
                        refine pure_ (i := 1) (N := some 152) (v := ?_) (a' := ?_) m43_ rfl rfl (any_of HT_.out (by kernel_rfl)) (fun _ _ _ h => h) (Or.inl ⟨by rfl, ?_⟩) ?_ ?_
                        rotate_left
                        ·intro w'
                         go_simp
                         with_reducible rfl
                        rotate_left
                        ·simp only [Act.put, setIfInBounds_toArray, set_cons_zero, set_cons_succ, i64_w, i32_w]
                         rfl
                        refine pure_ (i := 2) (N := some 153) (v := ?_) (a' := ?_) m44_ rfl rfl (any_of HT_.out (by kernel_rfl)) (fun _ _ _ h => h) (Or.inl ⟨by rfl, ?_⟩) ?_ ?_
                        rotate_left
                        ·intro w'
                         go_simp
                         with_reducible rfl
                        rotate_left
                        ·simp only [Act.put, setIfInBounds_toArray, set_cons_zero, set_cons_succ, i64_w, i32_w]
                         rfl
                        refine pure_ (i := 3) (N := some 154) (v := ?_) (a' := ?_) m45_ rfl rfl (any_of HT_.out (by kernel_rfl)) (fun _ _ _ h => h) (Or.inl ⟨by rfl, ?_⟩) ?_ ?_
                        rotate_left
                        ·intro w'
                         go_simp
                         with_reducible rfl
                        rotate_left
                        ·simp only [Act.put, setIfInBounds_toArray, set_cons_zero, set_cons_succ, i64_w, i32_w]
                         rfl
                        refine pure_ (i := 4) (N := some 155) (v := ?_) (a' := ?_) m46_ rfl rfl (any_of HT_.out (by kernel_rfl)) (fun _ _ _ h => h) (Or.inl ⟨by rfl, ?_⟩) ?_ ?_
                        rotate_left
                        ·intro w'
                         go_simp
                         with_reducible rfl
                        rotate_left
                        ·simp only [Act.put, setIfInBounds_toArray, set_cons_zero, set_cons_succ, i64_w, i32_w]
                         rfl
                        refine take_ (i := 5) (N := some 156) (v := ?_) (a' := ?_) m47_ rfl rfl (take_ofW HT_.out HW_.out (by kernel_rfl)) (fun _ _ _ h => h) (Or.inl ⟨by rfl, ?_⟩) hHeld ?_ ?_
                        rotate_left
                        ·intro w' s0
                         go_simp
                         with_reducible rfl
                        rotate_left
                        ·simp only [Act.put, setIfInBounds_toArray, set_cons_zero, set_cons_succ, i64_w, i32_w]
                         rfl
                        refine pure_ (i := 6) (N := some 157) (v := ?_) (a' := ?_) m48_ rfl rfl (any_of HT_.out (by kernel_rfl)) (fun _ _ _ h => h) (Or.inl ⟨by rfl, ?_⟩) ?_ ?_
                        rotate_left
                        ·intro w'
                         go_simp
                         with_reducible rfl
                        rotate_left
                        ·simp only [Act.put, setIfInBounds_toArray, set_cons_zero, set_cons_succ, i64_w, i32_w]
                         rfl
                        refine pure_ (i := 7) (N := some 158) (v := ?_) (a' := ?_) m49_ rfl rfl (any_of HT_.out (by kernel_rfl)) (fun _ _ _ h => h) (Or.inl ⟨by rfl, ?_⟩) ?_ ?_
                        rotate_left
                        ·intro w'
                         go_simp
                         with_reducible rfl
                        rotate_left
                        ·simp only [Act.put, setIfInBounds_toArray, set_cons_zero, set_cons_succ, i64_w, i32_w]
                         rfl
                        refine pure_ (i := 8) (N := some 159) (v := ?_) (a' := ?_) m50_ rfl rfl (any_of HT_.out (by kernel_rfl)) (fun _ _ _ h => h) (Or.inl ⟨by rfl, ?_⟩) ?_ ?_
                        rotate_left
                        ·intro w'
                         go_simp
                         with_reducible rfl
                        rotate_left
                        ·simp only [Act.put, setIfInBounds_toArray, set_cons_zero, set_cons_succ, i64_w, i32_w]
                         rfl
                        refine pure_ (i := 9) (N := some 160) (v := ?_) (a' := ?_) m51_ rfl rfl (any_of HT_.out (by kernel_rfl)) (fun _ _ _ h => h) (Or.inl ⟨by rfl, ?_⟩) ?_ ?_
                        rotate_left
                        ·intro w'
                         go_simp
                         with_reducible rfl
                        rotate_left
                        ·simp only [Act.put, setIfInBounds_toArray, set_cons_zero, set_cons_succ, i64_w, i32_w]
                         rfl
                        refine pure_ (i := 10) (N := some 161) (v := ?_) (a' := ?_) m52_ rfl rfl (any_of HT_.out (by kernel_rfl)) (fun _ _ _ h => h) (Or.inl ⟨by rfl, ?_⟩) ?_ ?_
                        rotate_left
                        ·intro w'
                         go_simp
                         with_reducible rfl
                        rotate_left
                        ·simp only [Act.put, setIfInBounds_toArray, set_cons_zero, set_cons_succ, i64_w, i32_w]
                         rfl
                        refine pure_ (i := 11) (N := some 162) (v := ?_) (a' := ?_) m53_ rfl rfl (any_of HT_.out (by kernel_rfl)) (fun _ _ _ h => h) (Or.inl ⟨by rfl, ?_⟩) ?_ ?_
                        rotate_left
                        ·intro w'
                         go_simp
                         with_reducible rfl
                        rotate_left
                        ·simp only [Act.put, setIfInBounds_toArray, set_cons_zero, set_cons_succ, i64_w, i32_w]
                         rfl
                        refine pure_ (i := 12) (N := some 163) (v := undef) (a' := ?_) m54_ rfl rfl (any_of HT_.out (by kernel_rfl)) (fun _ _ _ h => h) (Or.inr ⟨by rfl, rfl⟩) ?_ ?_
                        rotate_left
                        ·simp only [Act.put, setIfInBounds_toArray, set_cons_zero, set_cons_succ, i64_w, i32_w]
                         rfl
                        refine pure_ (i := 13) (N := some 164) (v := undef) (a' := ?_) m55_ rfl rfl (any_of HT_.out (by kernel_rfl)) (fun _ _ _ h => h) (Or.inr ⟨by rfl, rfl⟩) ?_ ?_
                        rotate_left
                        ·simp only [Act.put, setIfInBounds_toArray, set_cons_zero, set_cons_succ, i64_w, i32_w]
                         rfl
                        refine pure_ (i := 14) (N := some 165) (v := undef) (a' := ?_) m56_ rfl rfl (any_of HT_.out (by kernel_rfl)) (fun _ _ _ h => h) (Or.inr ⟨by rfl, rfl⟩) ?_ ?_
                        rotate_left
                        ·simp only [Act.put, setIfInBounds_toArray, set_cons_zero, set_cons_succ, i64_w, i32_w]
                         rfl
                        refine pure_ (i := 15) (N := some 166) (v := undef) (a' := ?_) m62_ rfl rfl (any_of HT_.out (by kernel_rfl)) (fun _ _ _ h => h) (Or.inr ⟨by rfl, rfl⟩) ?_ ?_
                        rotate_left
                        ·simp only [Act.put, setIfInBounds_toArray, set_cons_zero, set_cons_succ, i64_w, i32_w]
                         rfl
                        refine pure_ (i := 16) (N := some 167) (v := undef) (a' := ?_) m63_ rfl rfl (any_of HT_.out (by kernel_rfl)) (fun _ _ _ h => h) (Or.inr ⟨by rfl, rfl⟩) ?_ ?_
                        rotate_left
                        ·simp only [Act.put, setIfInBounds_toArray, set_cons_zero, set_cons_succ, i64_w, i32_w]
                         rfl
                        refine pure_ (i := 17) (N := some 168) (v := undef) (a' := ?_) m64_ rfl rfl (any_of HT_.out (by kernel_rfl)) (fun _ _ _ h => h) (Or.inr ⟨by rfl, rfl⟩) ?_ ?_
                        rotate_left
                        ·simp only [Act.put, setIfInBounds_toArray, set_cons_zero, set_cons_succ, i64_w, i32_w]
                         rfl
                        refine pure_ (i := 18) (N := some 169) (v := undef) (a' := ?_) m57_ rfl rfl (any_of HT_.out (by kernel_rfl)) (fun _ _ _ h => h) (Or.inr ⟨by rfl, rfl⟩) ?_ ?_
                        rotate_left
                        ·simp only [Act.put, setIfInBounds_toArray, set_cons_zero, set_cons_succ, i64_w, i32_w]
                         rfl
                        refine pure_ (i := 19) (N := some 170) (v := undef) (a' := ?_) m58_ rfl rfl (any_of HT_.out (by kernel_rfl)) (fun _ _ _ h => h) (Or.inr ⟨by rfl, rfl⟩) ?_ ?_
                        rotate_left
                        ·simp only [Act.put, setIfInBounds_toArray, set_cons_zero, set_cons_succ, i64_w, i32_w]
                         rfl
                        refine pure_ (i := 20) (N := some 171) (v := undef) (a' := ?_) m59_ rfl rfl (any_of HT_.out (by kernel_rfl)) (fun _ _ _ h => h) (Or.inr ⟨by rfl, rfl⟩) ?_ ?_
                        rotate_left
                        ·simp only [Act.put, setIfInBounds_toArray, set_cons_zero, set_cons_succ, i64_w, i32_w]
                         rfl
                        refine pure_ (i := 21) (N := some 172) (v := ?_) (a' := ?_) m60_ rfl rfl (any_of HT_.out (by kernel_rfl)) (fun _ _ _ h => h) (Or.inl ⟨by rfl, ?_⟩) ?_ ?_
                        rotate_left
                        ·intro w'
                         go_simp
                         with_reducible rfl
                        rotate_left
                        ·simp only [Act.put, setIfInBounds_toArray, set_cons_zero, set_cons_succ, i64_w, i32_w]
                         rfl
                        refine pure_ (i := 22) (N := some 173) (v := ?_) (a' := ?_) m61_ rfl rfl (any_of HT_.out (by kernel_rfl)) (fun _ _ _ h => h) (Or.inl ⟨by rfl, ?_⟩) ?_ ?_
                        rotate_left
                        ·intro w'
                         go_simp
                         with_reducible rfl
                        rotate_left
                        ·simp only [Act.put, setIfInBounds_toArray, set_cons_zero, set_cons_succ, i64_w, i32_w]
                         rfl
                        refine done_ (done_of HT_.out (by kernel_rfl)) ?_
                        try go_wp2
                        go_meet
                        case rel => exact ⟨_, (false), (by first | rfl | (simp; done) | (simp [*]; done)), H', ⟨by have := HJ2.out; have := HK2.out; have := HJ29.out; have := HK4.out; have := HJ46.out; first | omega | exact Nat.le_refl _⟩, ⟨by (with_reducible repeat first | apply Kd.R_alloc | apply Kd.R_drewN | apply Kd.R_drew); exact Kd.R_mono HO_5.out (fun _ hk => ⟨hk.1.1, ⟨hk.1.2.1, hk.1.2.2⟩⟩)⟩, ⟨by (with_reducible repeat first | apply Kd.R_alloc | apply Kd.R_drewN | apply Kd.R_drew); exact Kd.R_mono HO_6.out (fun _ hk => ⟨hk.1.1, ⟨hk.1.2.1, hk.1.2.2⟩⟩)⟩, ⟨by (with_reducible repeat first | apply Kd.R_alloc | apply Kd.R_drewN | apply Kd.R_drew); exact Kd.R_mono HO_8.out (fun _ hk => ⟨hk.1.1, ⟨hk.1.2.1, hk.1.2.2⟩⟩)⟩, ⟨by (with_reducible repeat first | apply Kd.R_alloc | apply Kd.R_drewN | apply Kd.R_drew); exact Kd.R_mono HO_10.out (fun _ hk => ⟨hk.1.1, ⟨hk.1.2.1, hk.1.2.2⟩⟩)⟩, ⟨by (with_reducible repeat first | apply Kd.R_alloc | apply Kd.R_drewN | apply Kd.R_drew); exact HO_2159003.out⟩, ⟨by (with_reducible repeat first | refine blk_drewN ?_ _ | refine blk_drew ?_ | refine blk_alloc ?_ _); exact BK2158.out⟩, ⟨by repeat (first | (with_reducible first | exact HB.out | apply below_alloc | apply pw_below_drewN | apply below_drew1 | refine below_set ?_ GE2158.out) | exact HB.out)⟩⟩
                    case rest =>
                     clear HC75
                     try clear p2
                     try clear q2
                     try clear hx2
                     try clear c8
                     try clear p21
                     try clear q21
                     try clear hx21
                     try clear c81
                     try clear c81b0
                     try clear c81b1
                     try clear c82
                     try clear c82b0
                     try clear c83
                     try clear c87
                     try clear c87b0
                     try clear hx2199_0
                     try clear p2199
                     try clear q2199
                     obtain ⟨kq, x173_74, rfl, HA, HJ74, HO_5, HO_6, HO_8, HO_10, HO_2159003, BK2158, HB⟩ := hcut
                     cases kq with
                     | zero => exact absurd HA.out (by simp [racewaylaw6_ResidualBack.j5])
                     | succ kj74 =>
                      (have H := HA.out);(clear HA);(simp only [racewaylaw6_ResidualBack.j5] at H)
                      by_cases c90 : x173_74 = true
                      ·(subst c90);(have H1 : (some false) = some r := by rw [if_pos rfl] at H; exact H);(clear H);(have H := H1);(clear H1);(exact absurd ((Option.some.inj H).trans hrT_.out) (by simp))
                      ·(replace c90 := Bool.eq_false_iff.mpr c90);(subst c90);(have H1 : ((residual_Push.f kj74 2 1 2 x2159003_2 x6_2 (([wrap64 (2 * x14_4)] : List Int)) 1).bind fun bt2205 => (if bt2205.2 = 9 then (racewaylaw6_ResidualBack.l1 kj74 l0 y2159 x6_2 t2172 t2176 (wrap64 (x14_4 + 1)) 2 1 2 x2159003_2) else (some false))) = some r := by rw [if_neg (show ¬ (false = true) by decide)] at H; exact H);(clear H);(have H := H1);(clear H1);(obtain ⟨y2202, hy2202⟩ : ∃ y_ : List Int, y_ = (([wrap64 (2 * x14_4)] : List Int)) := ⟨_, rfl⟩);(replace H : ((residual_Push.f kj74 2 1 2 x2159003_2 x6_2 y2202 1).bind fun bt2205 => (if bt2205.2 = 9 then (racewaylaw6_ResidualBack.l1 kj74 l0 y2159 x6_2 t2172 t2176 (wrap64 (x14_4 + 1)) 2 1 2 x2159003_2) else (some false))) = some r := by first | (rw [hy2202]; with_reducible exact H) | (have H2_ := (Option.bind_some _ _).symm.trans H; rw [hy2202]; with_reducible exact H2_) | (have H2_ := (Option.bind_some _ _).symm.trans H; with_reducible exact H2_) | with_reducible exact H | (rw [hy2202]; exact H) | exact H);(have Ny2202 := Aside0.mk hy2202);(clear hy2202);(replace H := Option.bind_eq_some_iff.mp H);(obtain ⟨⟨t2205, t2208⟩, A910, H⟩ := H);(replace H : (if t2208 = 9 then (racewaylaw6_ResidualBack.l1 kj74 l0 y2159 x6_2 t2172 t2176 (wrap64 (x14_4 + 1)) 2 1 2 x2159003_2) else (some false)) = some r := H);(have A91 := Aside0.mk A910);(clear A910)
                       by_cases c92 : t2208 = 9
                       ·(rw [if_pos c92] at H);(have c92b0 : (t2208 == 9) = true := beq_iff_eq.mpr c92);(have c92b1 : (t2208 != 9) = false := bne_eq_false_iff_eq.mpr c92);(clear c92)
                        as_aux_lemma =>
                         (have H' := Aside0.mk H);(clear H);(have hcz93_0 : wc.cell? ⟨gb2158, 0, none⟩ = some (.int .i64 2) := (blk_cell BK2158.out 0).trans rfl);(have hcz93_1 : wc.cell? ⟨gb2158, 1, none⟩ = some (.int .i64 1) := (blk_cell BK2158.out 1).trans rfl);(have hcz93_2 : wc.cell? ⟨gb2158, 2, none⟩ = some (.int .i64 2) := (blk_cell BK2158.out 2).trans rfl);(have hcz93_3 : wc.cell? ⟨gb2158, 3, none⟩ = some (.slice Ao32 x2159003_2.length co32) := (blk_cell BK2158.out 3).trans rfl);(have hfz93_0 := blk_frozen BK2158.out 0);(have hfz93_1 := blk_frozen BK2158.out 1);(have hfz93_2 := blk_frozen BK2158.out 2);(have hfz93_3 := blk_frozen BK2158.out 3)
                         go_wp2_with (first | ((with_reducible refine gate_dst (N := 179) rfl ?_); (try (refine gate_guard (by rfl) ?_; dsimp only)); refine Kd.R_lit (Kd.int .i64) _ 3 ?hg (N := 179) ?hd (xs := ([wrap64 (2 * x14_4)] : List Int)) (inner := [.int .i64 (wrap64 (2 * x14_4))]) (ok := fun _ => True) (okp := fun _ => True) ?hr ?hp (fun _ hk => hk) trivial (Below.refl _ _) (Nat.le_refl _) (by simp) ?_; (case hd => rfl); (case hg => rfl); (case hr => first | (go_simp; done) | (go_simp; rfl)); (case hp => exact (Reps.one (show Kd.M (Kd.int .i64) _ _ _ (wrap64 (2 * x14_4)) [.int .i64 (wrap64 (2 * x14_4))] from rfl) (Reps.none _ _))); intro v2203 w94 ho95 hb hg_ hnew_; clear hg_ hnew_; (first | rw [← Ny2202.out] at ho95 | (simp only [Int.reduceToNat] at ho95; rw [← Ny2202.out] at ho95)); have n0_ := Aside0.mk (Kd.R_below (by (with_reducible repeat first | apply Kd.R_alloc | apply Kd.R_drewN | apply Kd.R_drew); exact HO_5.out) hb); have n1_ := Aside0.mk (Kd.R_below (by (with_reducible repeat first | apply Kd.R_alloc | apply Kd.R_drewN | apply Kd.R_drew); exact HO_6.out) hb); have n2_ := Aside0.mk (Kd.R_below (by (with_reducible repeat first | apply Kd.R_alloc | apply Kd.R_drewN | apply Kd.R_drew); exact HO_8.out) hb); have n3_ := Aside0.mk (Kd.R_below (by (with_reducible repeat first | apply Kd.R_alloc | apply Kd.R_drewN | apply Kd.R_drew); exact HO_10.out) hb); have n4_ := Aside0.mk (Kd.R_below (by (with_reducible repeat first | apply Kd.R_alloc | apply Kd.R_drewN | apply Kd.R_drew); exact HO_2159003.out) hb); have n5_ := Aside0.mk (Kd.R_lower ho95 (below_size (by repeat (first | (with_reducible first | exact HB.out | apply below_alloc | apply pw_below_drewN | apply below_drew1 | refine below_set ?_ GE2158.out) | exact HB.out)))); have n6_ := Aside0.mk (blk_below (g := gb2158) (o := .cells #[.int .i64 2, .int .i64 1, .int .i64 2, .slice Ao32 x2159003_2.length co32] 27 (0, 0)) (by (with_reducible repeat first | refine blk_drewN ?_ _ | refine blk_drew ?_ | refine blk_alloc ?_ _); exact BK2158.out) hb); have n7_ := Aside0.mk (below_step (by repeat (first | (with_reducible first | exact HB.out | apply below_alloc | apply pw_below_drewN | apply below_drew1 | refine below_set ?_ GE2158.out) | exact HB.out)) hb); clear HO_5; clear HO_6; clear HO_8; clear HO_10; clear HO_2159003; clear BK2158; clear HB; have HO_5 := n0_; have HO_6 := n1_; have HO_8 := n2_; have HO_10 := n3_; have HO_2159003 := n4_; have HO2204 := n5_; have BK2158 := n6_; have HB := n7_; clear n0_ n1_ n2_ n3_ n4_ n5_ n6_ n7_; clear hb ho95; obtain ⟨Ao96, co96, eo96⟩ := Kd.R_slice HO2204.out; subst eo96) | ((with_reducible refine gate_callee (f := 28) rfl ?_); refine goesL_ (some 180) rfl rfl Try.func28 (by kernel_rfl) rfl #[.agg #[.int .i64 2, .int .i64 1, .int .i64 2, .slice Ao32 x2159003_2.length co32], .slice (some ad2194) x6_2.length co36, .slice Ao96 y2202.length co96, .int .i64 1] rfl (by (try simp only [List.map_toArray, List.map_cons, List.map_nil]); first | done | rfl | (simp only [List.length_drop, List.length_take]; rfl)) ?_; (with_reducible refine (residual_Push.calls kj74 2 1 2 _ _ x2159003_2 _ _ x6_2 _ _ y2202 1 t2205 t2208 _ ?side1 ?side2 ?side3 ?side4 ?side5 ?side6 A91.out).mono ?_); (case side1 => repeat (first | exact (Kd.R_reads' HO_2159003.out).2.2 | (with_reducible refine Kd.C_alloc ?_ _) | (with_reducible refine Kd.C_drewN ?_ _) | (with_reducible refine Kd.C_drew ?_))); (case side2 => exact (Kd.R_reads' HO_2159003.out).2.1); (case side3 => repeat (first | exact (Kd.R_reads' HO_6.out).2.2 | (with_reducible refine Kd.C_alloc ?_ _) | (with_reducible refine Kd.C_drewN ?_ _) | (with_reducible refine Kd.C_drew ?_))); (case side4 => exact (Kd.R_reads' HO_6.out).2.1); (case side5 => repeat (first | exact (Kd.R_reads' HO2204.out).2.2 | (with_reducible refine Kd.C_alloc ?_ _) | (with_reducible refine Kd.C_drewN ?_ _) | (with_reducible refine Kd.C_drew ?_))); (case side6 => exact (Kd.R_reads' HO2204.out).2.1); rintro e w97 ⟨v2206, rfl, ho0, hb⟩; refine ⟨_, rfl, ?_⟩; have n0_ := Aside0.mk (Kd.R_elder' (by (with_reducible repeat first | apply Kd.R_alloc | apply Kd.R_drewN | apply Kd.R_drew); exact HO_5.out) (Kd.R_base ho0) hb); have n1_ := Aside0.mk (Kd.R_elder' (by (with_reducible repeat first | apply Kd.R_alloc | apply Kd.R_drewN | apply Kd.R_drew); exact HO_6.out) (Kd.R_base ho0) hb); have n2_ := Aside0.mk (Kd.R_elder' (by (with_reducible repeat first | apply Kd.R_alloc | apply Kd.R_drewN | apply Kd.R_drew); exact HO_8.out) (Kd.R_base ho0) hb); have n3_ := Aside0.mk (Kd.R_elder' (by (with_reducible repeat first | apply Kd.R_alloc | apply Kd.R_drewN | apply Kd.R_drew); exact HO_10.out) (Kd.R_base ho0) hb); have n4_ := Aside0.mk (Kd.R_below (by (with_reducible repeat first | apply Kd.R_alloc | apply Kd.R_drewN | apply Kd.R_drew); exact HO_2159003.out) hb); have n5_ := Aside0.mk (Kd.R_below (by (with_reducible repeat first | apply Kd.R_alloc | apply Kd.R_drewN | apply Kd.R_drew); exact HO2204.out) hb); have n6_ := Aside0.mk (Kd.R_lower (Kd.R_new' (Kd.R_new' (Kd.R_new' (Kd.R_new' ho0 (Kd.R_lt (by (with_reducible repeat first | apply Kd.R_alloc | apply Kd.R_drewN | apply Kd.R_drew); exact HO_5.out))) (Kd.R_lt (by (with_reducible repeat first | apply Kd.R_alloc | apply Kd.R_drewN | apply Kd.R_drew); exact HO_6.out))) (Kd.R_lt (by (with_reducible repeat first | apply Kd.R_alloc | apply Kd.R_drewN | apply Kd.R_drew); exact HO_8.out))) (Kd.R_lt (by (with_reducible repeat first | apply Kd.R_alloc | apply Kd.R_drewN | apply Kd.R_drew); exact HO_10.out))) (below_size (by repeat (first | (with_reducible first | exact HB.out | apply below_alloc | apply pw_below_drewN | apply below_drew1 | refine below_set ?_ GE2158.out) | exact HB.out)))); have n7_ := Aside0.mk (blk_below (g := gb2158) (o := .cells #[.int .i64 2, .int .i64 1, .int .i64 2, .slice Ao32 x2159003_2.length co32] 27 (0, 0)) (by (with_reducible repeat first | refine blk_drewN ?_ _ | refine blk_drew ?_ | refine blk_alloc ?_ _); exact BK2158.out) hb); have n8_ := Aside0.mk (below_step (by repeat (first | (with_reducible first | exact HB.out | apply below_alloc | apply pw_below_drewN | apply below_drew1 | refine below_set ?_ GE2158.out) | exact HB.out)) hb); clear HO_5; clear HO_6; clear HO_8; clear HO_10; clear HO_2159003; clear HO2204; clear BK2158; clear HB; have HO_5 := n0_; have HO_6 := n1_; have HO_8 := n2_; have HO_10 := n3_; have HO_2159003 := n4_; have HO2204 := n5_; have HO2207 := n6_; have BK2158 := n7_; have HB := n8_; clear n0_ n1_ n2_ n3_ n4_ n5_ n6_ n7_ n8_; (try clear hb); (try clear hb2); (try clear hk); (try clear hi); (try clear ho0)))
                         go_roundg kj74
                         case measure => have := HJ2.out; have := HK2.out; have := HJ29.out; have := HK4.out; have := HJ46.out; have := HJ74.out; omega
                         case rel => exact ⟨(wrap64 (x14_4 + 1)), (by first | rfl | (simp; done) | (simp [*]; done)), H', ⟨by have := HJ2.out; have := HK2.out; have := HJ29.out; have := HK4.out; have := HJ46.out; have := HJ74.out; omega⟩, ⟨by (with_reducible repeat first | apply Kd.R_alloc | apply Kd.R_drewN | apply Kd.R_drew); exact Kd.R_mono HO_5.out (fun _ hk => ⟨hk.1.1, ⟨hk.1.2.1, hk.1.2.2⟩⟩)⟩, ⟨by (with_reducible repeat first | apply Kd.R_alloc | apply Kd.R_drewN | apply Kd.R_drew); exact Kd.R_mono HO_6.out (fun _ hk => ⟨hk.1.1, ⟨hk.1.2.1, hk.1.2.2⟩⟩)⟩, ⟨by (with_reducible repeat first | apply Kd.R_alloc | apply Kd.R_drewN | apply Kd.R_drew); exact Kd.R_mono HO_8.out (fun _ hk => ⟨hk.1.1, ⟨hk.1.2.1, hk.1.2.2⟩⟩)⟩, ⟨by (with_reducible repeat first | apply Kd.R_alloc | apply Kd.R_drewN | apply Kd.R_drew); exact Kd.R_mono HO_10.out (fun _ hk => ⟨hk.1.1, ⟨hk.1.2.1, hk.1.2.2⟩⟩)⟩, ⟨by (with_reducible repeat first | apply Kd.R_alloc | apply Kd.R_drewN | apply Kd.R_drew); exact HO_2159003.out⟩, ⟨by (with_reducible repeat first | refine blk_drewN ?_ _ | refine blk_drew ?_ | refine blk_alloc ?_ _); exact BK2158.out⟩, ⟨by repeat (first | (with_reducible first | exact HB.out | apply below_alloc | apply pw_below_drewN | apply below_drew1 | refine below_set ?_ GE2158.out) | exact HB.out)⟩⟩
                       ·(rw [if_neg c92] at H);(have c92b0 : (t2208 == 9) = false := beq_eq_false_iff_ne.mpr c92);(have c92b1 : (t2208 != 9) = true := bne_iff_ne.mpr c92);(exact absurd ((Option.some.inj H).trans hrT_.out) (by simp))
                   ·(rw [if_neg c73] at H);(exact absurd H (by simp))
                  ·(rw [if_neg c72] at H);(exact absurd H (by simp))
              ·(rw [if_neg c46] at H);(have c46b0 : decide (x14_4 < (l0.length : Int)) = false := decide_eq_false c46);(clear c46)
               as_aux_lemma =>
                obtain rfl := Option.some.inj H
                go_wp2
                go_ret
                exact ⟨by first | rfl | (simp [errW_none, errW_some] <;> rfl) | (simp [*, errW_none, errW_some] <;> rfl), by repeat (first | (with_reducible first | exact HB.out | apply below_alloc | apply pw_below_drewN | apply below_drew1 | refine below_set ?_ GE2158.out) | exact HB.out)⟩
     ·(rw [if_neg c8] at H);(exact absurd H (by simp))
    ·(rw [if_neg c7] at H);(exact absurd H (by simp))
theorem racewaylaw6_ResidualBack.walk (P : racewaylaw6_ResidualBack.Pure) (a0 : Option Addr) (len0 cap0 : Nat) (z0 : List Int) (w : World) (w0 : (a0 = none ∧ len0 = 0 ∧ cap0 = 0 ∧ z0 = []) ∨ ∃ x, a0 = some x ∧ len0 ≤ cap0 ∧ cap0 ≤ maxLen ∧ z0.length = cap0 ∧ (∀ i, i < z0.length → w.cell? (x.add i) = some (.int .i64 (z0.getD i 0))) ∧ ∀ n ∈ z0, (Lit.int .i64 n).wf = true) (y0 : len0 * 8 ≤ 140737488351232) :
  Calls Try.prog 11 #[.slice a0 len0 cap0] w fun e w' => e = .returned (.bool true) ∧ Below w.heap.size w w' := by
 obtain ⟨l0, rfl, hr0, hm0, hw0, hc0⟩ := ReadsInt.ofRowC w0
 obtain ⟨k, h⟩ := P l0 hm0 y0 hw0
 refine (racewaylaw6_ResidualBack.calls k _ _ l0 true w (Kd.C_of_reads (d := (0 : Int)) (h1 := fun _ => rfl) hr0) hc0 h ⟨rfl⟩).mono ?_
 rintro e w' ⟨rfl, hd⟩
 exact ⟨rfl, hd⟩
end Go.Proofs.Ytbppeffcikphcaa.PResidualBack
