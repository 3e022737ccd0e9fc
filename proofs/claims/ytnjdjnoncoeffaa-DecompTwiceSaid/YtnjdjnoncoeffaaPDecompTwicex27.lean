/- For the law DecompTwice, for every input: printed by a program (wip/myprint), contracts by hand where it says MANUAL. -/
-- slim
import Derived.Test.YtnjdjnoncoeffaaPDecompTwicex0
namespace Go.Proofs.Ytnjdjnoncoeffaa.PDecompTwice
open Go.RowKit Go.Proofs.YtnjdjnoncoeffaaW.PrintWords Go.Proofs.YtnjdjnoncoeffaaW.PrintLast Go.Proofs.YtnjdjnoncoeffaaW.PrintMore
attribute [local go_sem] max2_int min2_int max_two min_two max_three min_three max_four min_four
set_option linter.unusedVariables false
set_option linter.unusedSimpArgs false
/-! ### racewaylaw15_as: function 18 -/
def racewaylaw15_as.l0 : Nat → List (S36) → List (S67) → Int → Option ((List (S67)))
 | 0, _, _, _ => none
 | k + 1, x0, x3, x4 => if x4 < (x0.length : Int) then (if 0 ≤ x4 then (if x3.length < 3518437208883 then (racewaylaw15_as.l0 k x0 (x3 ++ [(⟨(rd_T36 x0 x4).f0, (rd_T36 x0 x4).f1, (rd_T36 x0 x4).f2⟩ : S67)]) (wrap64 (x4 + 1))) else (none)) else (none)) else (some x3)
def racewaylaw15_as.f (k : Nat) (l0 : List (S36)) : Option ((List (S67))) := racewaylaw15_as.l0 k l0 ([] : List (S67)) 0
theorem racewaylaw15_as.mono_l : ∀ k, (∀ y0 y1 y2, LeO (racewaylaw15_as.l0 k y0 y1 y2) (racewaylaw15_as.l0 (k + 1) y0 y1 y2))
 | 0 => fun _ _ _ r h => by simp [racewaylaw15_as.l0] at h
 | k + 1 => by
  have ih0 := racewaylaw15_as.mono_l k
  ·intro y0 y1 y2
   unfold racewaylaw15_as.l0
   repeat' first
   | (with_reducible exact ih0 _ _ _)
   | (with_reducible exact LeO.refl _)
   | (with_reducible exact LeO.none _)
   | (with_reducible refine LeO.ite ?_ ?_)
   | (with_reducible refine LeO.bind ?_ (fun _ => ?_))
   | exact ih0 _ _ _
   | exact LeO.none _
   | refine LeO.ite ?_ ?_
   | refine LeO.bind ?_ (fun _ => ?_)
theorem racewaylaw15_as.mono : ∀ a0 k, LeO (racewaylaw15_as.f k a0) (racewaylaw15_as.f (k + 1) a0) := by
 intro a0 k
 have ih0 := racewaylaw15_as.mono_l k
 unfold racewaylaw15_as.f
 repeat' first
   | (with_reducible exact ih0 _ _ _)
   | (with_reducible exact LeO.refl _)
   | (with_reducible exact LeO.none _)
   | (with_reducible refine LeO.ite ?_ ?_)
   | (with_reducible refine LeO.bind ?_ (fun _ => ?_))
   | exact ih0 _ _ _
   | exact LeO.none _
   | refine LeO.ite ?_ ?_
   | refine LeO.bind ?_ (fun _ => ?_)
def racewaylaw15_as.T5 : Bool × List (List Nat × List Nat) := (true, [([], []), ([], []), ([], []), ([1, 2], [1, 2]), ([3], [3]), ([4], [4]), ([], []), ([], []), ([6, 7], [6, 7]), ([8], [8]), ([9], [9]), ([], []), ([], []), ([11, 12], [11, 12]), ([13], [13]), ([14], [14]), ([5, 10, 15], [5, 10, 15]), ([16], [16]), ([0, 17], [0, 17]), ([18, 18, 0, 1, 2, 3, 4, 5, 6, 7, 8, 9, 10, 11, 12, 13, 14, 15, 16, 17, 18], [0, 18])])
def racewaylaw15_as.B5 : List Nat := [0, 0, 0, 6, 14, 30, 0, 0, 192, 448, 960, 0, 0, 6144, 14336, 30720, 65534, 131070, 262143, 524287]
theorem racewaylaw15_as.tab5 : rtab .any (opsOf Try.f18 5) = racewaylaw15_as.T5 := by kernel_rfl
theorem racewaylaw15_as.bits5 : waitsOk racewaylaw15_as.T5.2 racewaylaw15_as.B5 = true := by kernel_rfl
set_option maxHeartbeats 8000000 in
set_option maxRecDepth 100000 in
theorem racewaylaw15_as.calls (k : Nat) (P0_ : Nat → Prop) (A0 : Option Addr) (c0 : Nat) (l0 : List (S36)) (r : List (S67)) (w : World) (hs0 : Kd.V k36 36 w w.heap.size (fun k_ => P0_ k_) (.slice A0 l0.length c0) l0) (h : racewaylaw15_as.f k l0 = some r) :
  Calls Try.prog 18 #[.slice A0 l0.length c0] w fun e w' => ∃ v0_ : Value, e = .returned (v0_) ∧ Kd.N k67 67 w' w.heap.size (fun k_ => (P0_ k_ ∨ w.heap.size ≤ k_)) v0_ r ∧ Below w.heap.size w w' := by
 have hu67 := Try.underlying67
 have HO0 := Aside0.mk (show Kd.V k36 36 w w.heap.size (fun k_ => (P0_ k_ ∨ w.heap.size ≤ k_)) (.slice A0 l0.length c0) l0 from Kd.V_mono hs0 (fun k_ hk => .inl hk))
 have HB := Aside0.mk (Below.refl w.heap.size w)
 have H : (racewaylaw15_as.l0 k l0 ([] : List (S67)) 0) = some r := h
 clear h
 have H' := Aside0.mk H
 clear H
 go_enter Try.func18, Try.ntmps18
 go_wp2
 go_loopg [3, 4] k (fun kq v3 v4 w' => ∃ (x3_1 : List (S67)) (x4_1 : Int), v4 = .int .i64 x4_1 ∧ Aside0 (racewaylaw15_as.l0 kq l0 x3_1 x4_1 = some r) ∧ Aside0 (kq ≤ k) ∧ Aside0 (Kd.V k36 36 w' w.heap.size (fun k_ => (P0_ k_ ∨ w.heap.size ≤ k_) ∧ some k_ ≠ (v3 : Value).ownBlock) (.slice A0 l0.length c0) l0) ∧ Aside0 (Kd.N k67 67 w' w.heap.size (fun k_ => (P0_ k_ ∨ w.heap.size ≤ k_)) v3 x3_1) ∧ Aside0 (Below w.heap.size w w'))
 case atStart => exact ⟨(([] : List (S67))), (0), (by first | rfl | (simp; done) | (simp [*]; done)), H', ⟨Nat.le_refl _⟩, ⟨by (with_reducible repeat (first | apply Kd.V_alloc | apply Kd.V_drewN | apply Kd.V_drew)); exact Kd.V_mono HO0.out (fun _ hk => ⟨hk, (by simp [Value.ownBlock])⟩)⟩, ⟨by first | exact Kd.S_nil _ _ _ _ _ | exact Kd.N_nil _ _ _ _ _ | exact Kd.V_nil _ _ _ _ _ | exact Kd.Q_nil _ _ _ _ _ | exact Kd.R_nil _ _ _ _ _⟩, ⟨by repeat (first | (with_reducible first | exact HB.out | apply below_alloc | apply pw_below_drewN | apply below_drew1) | exact HB.out)⟩⟩
 case round =>
  clear H'
  try clear c1
  obtain ⟨x3_1, x4_1, rfl, HA, HK1, HO_0, HO_3, HB⟩ := hrel
  cases gk with
  | zero => exact absurd HA.out (by simp [racewaylaw15_as.l0])
  | succ k1 =>
   (have H := HA.out);(clear HA);(simp only [racewaylaw15_as.l0] at H)
   by_cases c2 : x4_1 < (l0.length : Int)
   ·(rw [if_pos c2] at H);(have c2b0 : decide (x4_1 < (l0.length : Int)) = true := decide_eq_true c2);(clear c2)
    by_cases c3 : 0 ≤ x4_1
    ·(rw [if_pos c3] at H);(have c3b0 : decide (0 ≤ x4_1) = true := decide_eq_true c3);(clear c3)
     by_cases c4 : x3_1.length < 3518437208883
     ·(rw [if_pos c4] at H);(have LMc4 := Aside0.mk c4);(clear c4);(obtain ⟨y231, hy231⟩ : ∃ y_ : List (S67), y_ = (x3_1 ++ [(⟨(rd_T36 l0 x4_1).f0, (rd_T36 l0 x4_1).f1, (rd_T36 l0 x4_1).f2⟩ : S67)]) := ⟨_, rfl⟩);(replace H : (racewaylaw15_as.l0 k1 l0 y231 (wrap64 (x4_1 + 1))) = some r := by first | (rw [hy231]; with_reducible exact H) | (have H2_ := (Option.bind_some _ _).symm.trans H; rw [hy231]; with_reducible exact H2_) | (have H2_ := (Option.bind_some _ _).symm.trans H; with_reducible exact H2_) | with_reducible exact H | (rw [hy231]; exact H) | exact H);(have Ny231 := Aside0.mk hy231);(clear hy231)
      as_aux_lemma =>
       (have H' := Aside0.mk H);(clear H)
       try go_wp2
       (have n0_ := Aside0.mk (Kd.V_drew HO_0.out));(have n1_ := Aside0.mk (Kd.N_drew HO_3.out));(have n2_ := Aside0.mk (below_drew1 HB.out));(clear HO_0);(clear HO_3);(clear HB);(have HO_0 := n0_);(have HO_3 := n1_);(have HB := n2_);(clear n0_ n1_ n2_);(have p228 : 0 ≤ (x4_1 : Int) := of_decide_eq_true (by first | (with_reducible assumption) | assumption));(have q228 : x4_1 < (l0.length : Int) := of_decide_eq_true (by first | (with_reducible assumption) | assumption));(obtain ⟨ad228, A228_1, c228_1, e228, hx228_0, hx228_1, hx228_2, hl228_1, hi228_1⟩ := at_T36 (Kd.V_reads' HO_0.out).2.2 x4_1 p228 q228);(cases e228);(obtain ⟨ce228, hce228, hMe228, hcc228⟩ := Kd.V_get HO_0.out z36 x4_1 p228 (by first | exact q228 | exact of_decide_eq_true (by first | (with_reducible assumption) | assumption) | (have e_ := (Kd.V_reads' HO_0.out).1; omega)));(obtain ⟨ua228_1, uc228_1, rfl, ul228_1, ge228_1⟩ := k36_openF hMe228);(have hv228_1 := hcc228 1 _ rfl);(rw [add_field _ _ 1 (by omega)] at hv228_1);(replace hv228_1 := Option.some.inj (hv228_1.symm.trans hx228_1));(injection hv228_1 with hva_ hvn_ hvc_);(rw [hva_] at ge228_1);(rw [hvc_] at ul228_1);(have HL228_1 := Aside0.mk (show Kd.V (Kd.int .i64) 3 _ w.heap.size _ _ ((rd_T36 l0 x4_1).f1) from Kd.V_mk ul228_1 ge228_1));(clear hva_ hvn_ hvc_ ge228_1 ul228_1);(clear hcc228 hce228);(have HR228_1 := Aside0.mk hi228_1);(have HC228_1 := Aside0.mk hl228_1);(clear hi228_1 hl228_1);(replace p228 := eq_true p228);(replace q228 := eq_true q228);(have p229 : 0 ≤ (x4_1 : Int) := of_decide_eq_true (by first | (with_reducible assumption) | assumption));(have q229 : x4_1 < (l0.length : Int) := of_decide_eq_true (by first | (with_reducible assumption) | assumption));(obtain ⟨ad229, A229_1, c229_1, e229, hx229_0, hx229_1, hx229_2, hl229_1, hi229_1⟩ := at_T36 (Kd.V_reads' HO_0.out).2.2 x4_1 p229 q229);(obtain rfl : ad228 = ad229 := (by injection e229));(obtain ⟨ce229, hce229, hMe229, hcc229⟩ := Kd.V_get HO_0.out z36 x4_1 p229 (by first | exact q229 | exact of_decide_eq_true (by first | (with_reducible assumption) | assumption) | (have e_ := (Kd.V_reads' HO_0.out).1; omega)));(obtain ⟨ua229_1, uc229_1, rfl, ul229_1, ge229_1⟩ := k36_openF hMe229);(have hv229_1 := hcc229 1 _ rfl);(rw [add_field _ _ 1 (by omega)] at hv229_1);(replace hv229_1 := Option.some.inj (hv229_1.symm.trans hx229_1));(injection hv229_1 with hva_ hvn_ hvc_);(rw [hva_] at ge229_1);(rw [hvc_] at ul229_1);(have HL229_1 := Aside0.mk (show Kd.V (Kd.int .i64) 3 _ w.heap.size _ _ ((rd_T36 l0 x4_1).f1) from Kd.V_mk ul229_1 ge229_1));(clear hva_ hvn_ hvc_ ge229_1 ul229_1);(clear hcc229 hce229);(have HR229_1 := Aside0.mk hi229_1);(have HC229_1 := Aside0.mk hl229_1);(clear hi229_1 hl229_1);(replace p229 := eq_true p229);(replace q229 := eq_true q229);(have ea_ := Option.some.inj (hx228_1.symm.trans hx229_1));(injection ea_ with ea_ en_ ec_);(subst ea_);(subst ec_);(clear en_);(have p230 : 0 ≤ (x4_1 : Int) := of_decide_eq_true (by first | (with_reducible assumption) | assumption));(have q230 : x4_1 < (l0.length : Int) := of_decide_eq_true (by first | (with_reducible assumption) | assumption));(obtain ⟨ad230, A230_1, c230_1, e230, hx230_0, hx230_1, hx230_2, hl230_1, hi230_1⟩ := at_T36 (Kd.V_reads' HO_0.out).2.2 x4_1 p230 q230);(obtain rfl : ad228 = ad230 := (by injection e230));(obtain ⟨ce230, hce230, hMe230, hcc230⟩ := Kd.V_get HO_0.out z36 x4_1 p230 (by first | exact q230 | exact of_decide_eq_true (by first | (with_reducible assumption) | assumption) | (have e_ := (Kd.V_reads' HO_0.out).1; omega)));(obtain ⟨ua230_1, uc230_1, rfl, ul230_1, ge230_1⟩ := k36_openF hMe230);(have hv230_1 := hcc230 1 _ rfl);(rw [add_field _ _ 1 (by omega)] at hv230_1);(replace hv230_1 := Option.some.inj (hv230_1.symm.trans hx230_1));(injection hv230_1 with hva_ hvn_ hvc_);(rw [hva_] at ge230_1);(rw [hvc_] at ul230_1);(have HL230_1 := Aside0.mk (show Kd.V (Kd.int .i64) 3 _ w.heap.size _ _ ((rd_T36 l0 x4_1).f1) from Kd.V_mk ul230_1 ge230_1));(clear hva_ hvn_ hvc_ ge230_1 ul230_1);(clear hcc230 hce230);(have HR230_1 := Aside0.mk hi230_1);(have HC230_1 := Aside0.mk hl230_1);(clear hi230_1 hl230_1);(replace p230 := eq_true p230);(replace q230 := eq_true q230);(have ea_ := Option.some.inj (hx228_1.symm.trans hx230_1));(injection ea_ with ea_ en_ ec_);(subst ea_);(subst ec_);(clear en_);(refine start_ (n := 20) (S := fun w' => w'.cell? (ad228.add ((x4_1).toNat * 3)) = some (.int .u8 ((rd_T36 l0 x4_1).f0)) ∧ w'.cell? ⟨(ad228.add ((x4_1).toNat * 3)).block, (ad228.add ((x4_1).toNat * 3)).off + 1, none⟩ = some (.slice A228_1 ((rd_T36 l0 x4_1).f1).length c228_1) ∧ w'.cell? ⟨(ad228.add ((x4_1).toNat * 3)).block, (ad228.add ((x4_1).toNat * 3)).off + 2, none⟩ = some (.int .i64 ((rd_T36 l0 x4_1).f2)) ∧ w'.cell? (ad228.add ((x4_1).toNat * 3)) = some (.int .u8 ((rd_T36 l0 x4_1).f0)) ∧ w'.cell? ⟨(ad228.add ((x4_1).toNat * 3)).block, (ad228.add ((x4_1).toNat * 3)).off + 1, none⟩ = some (.slice A228_1 ((rd_T36 l0 x4_1).f1).length c228_1) ∧ w'.cell? ⟨(ad228.add ((x4_1).toNat * 3)).block, (ad228.add ((x4_1).toNat * 3)).off + 2, none⟩ = some (.int .i64 ((rd_T36 l0 x4_1).f2)) ∧ w'.cell? (ad228.add ((x4_1).toNat * 3)) = some (.int .u8 ((rd_T36 l0 x4_1).f0)) ∧ w'.cell? ⟨(ad228.add ((x4_1).toNat * 3)).block, (ad228.add ((x4_1).toNat * 3)).off + 1, none⟩ = some (.slice A228_1 ((rd_T36 l0 x4_1).f1).length c228_1) ∧ w'.cell? ⟨(ad228.add ((x4_1).toNat * 3)).block, (ad228.add ((x4_1).toNat * 3)).off + 2, none⟩ = some (.int .i64 ((rd_T36 l0 x4_1).f2))) (ds := [17, 18]) #[false, false, false, false, false, false, false, false, false, false, false, false, false, false, false, false, false, false, false, false] (by kernel_rfl) rfl rfl ⟨hx228_0, hx228_1, hx228_2, hx229_0, hx229_1, hx229_2, hx230_0, hx230_1, hx230_2⟩ (fun hHeld => ?_); refine with_tabW racewaylaw15_as.tab5 racewaylaw15_as.bits5 (fun HT_ HW_ => ?_));(generalize wr.drew = w5 at HO_0 HO_3 HB HL228_1 HL229_1 HL230_1 HR228_1 HR229_1 HR230_1 hx228_0 hx228_1 hx228_2 hx229_0 hx229_1 hx229_2 hx230_0 hx230_1 hx230_2 hHeld ⊢);(refine pure_ (i := 0) (N := some 11) (v := ?_) (a' := ?_) #[true, false, false, false, false, false, false, false, false, false, false, false, false, false, false, false, false, false, false, false] rfl rfl (any_of HT_.out (by kernel_rfl)) (fun _ _ _ h => h) (Or.inl ⟨by rfl, ?_⟩) ?_ ?_)
       rotate_left
       ·intro w'
        go_simp
        with_reducible rfl
       rotate_left
       ·simp only [Act.put, List.setIfInBounds_toArray, List.set_cons_zero, List.set_cons_succ, i64_w, i32_w]
        rfl
       refine pure_ (i := 1) (N := some 12) (v := ?_) (a' := ?_) #[true, true, false, false, false, false, false, false, false, false, false, false, false, false, false, false, false, false, false, false] rfl rfl (any_of HT_.out (by kernel_rfl)) (fun _ _ _ h => h) (Or.inl ⟨by rfl, ?_⟩) ?_ ?_
       rotate_left
       ·intro w'
        go_simp
        with_reducible rfl
       rotate_left
       ·simp only [Act.put, List.setIfInBounds_toArray, List.set_cons_zero, List.set_cons_succ, i64_w, i32_w]
        rfl
       refine pure_ (i := 2) (N := some 13) (v := ?_) (a' := ?_) #[true, true, true, false, false, false, false, false, false, false, false, false, false, false, false, false, false, false, false, false] rfl rfl (any_of HT_.out (by kernel_rfl)) (fun _ _ _ h => h) (Or.inl ⟨by rfl, ?_⟩) ?_ ?_
       rotate_left
       ·intro w'
        go_simp
        with_reducible rfl
       rotate_left
       ·simp only [Act.put, List.setIfInBounds_toArray, List.set_cons_zero, List.set_cons_succ, i64_w, i32_w]
        rfl
       refine pure_ (i := 3) (N := some 14) (v := ?_) (a' := ?_) #[true, true, true, true, false, false, false, false, false, false, false, false, false, false, false, false, false, false, false, false] rfl rfl (any_of HT_.out (by kernel_rfl)) (fun _ _ _ h => h) (Or.inl ⟨by rfl, ?_⟩) ?_ ?_
       rotate_left
       ·intro w'
        go_simp
        with_reducible rfl
       rotate_left
       ·simp only [Act.put, List.setIfInBounds_toArray, List.set_cons_zero, List.set_cons_succ, i64_w, i32_w]
        rfl
       refine pure_ (i := 4) (N := some 15) (v := ?_) (a' := ?_) #[true, true, true, true, true, false, false, false, false, false, false, false, false, false, false, false, false, false, false, false] rfl rfl (any_of HT_.out (by kernel_rfl)) (fun _ _ _ h => h) (Or.inl ⟨by rfl, ?_⟩) ?_ ?_
       rotate_left
       ·intro w'
        go_simp
        with_reducible rfl
       rotate_left
       ·simp only [Act.put, List.setIfInBounds_toArray, List.set_cons_zero, List.set_cons_succ, i64_w, i32_w]
        rfl
       refine pure_ (i := 6) (N := some 17) (v := ?_) (a' := ?_) #[true, true, true, true, true, false, true, false, false, false, false, false, false, false, false, false, false, false, false, false] rfl rfl (any_of HT_.out (by kernel_rfl)) (fun _ _ _ h => h) (Or.inl ⟨by rfl, ?_⟩) ?_ ?_
       rotate_left
       ·intro w'
        go_simp
        with_reducible rfl
       rotate_left
       ·simp only [Act.put, List.setIfInBounds_toArray, List.set_cons_zero, List.set_cons_succ, i64_w, i32_w]
        rfl
       refine pure_ (i := 7) (N := some 18) (v := ?_) (a' := ?_) #[true, true, true, true, true, false, true, true, false, false, false, false, false, false, false, false, false, false, false, false] rfl rfl (any_of HT_.out (by kernel_rfl)) (fun _ _ _ h => h) (Or.inl ⟨by rfl, ?_⟩) ?_ ?_
       rotate_left
       ·intro w'
        go_simp
        with_reducible rfl
       rotate_left
       ·simp only [Act.put, List.setIfInBounds_toArray, List.set_cons_zero, List.set_cons_succ, i64_w, i32_w]
        rfl
       refine pure_ (i := 8) (N := some 19) (v := ?_) (a' := ?_) #[true, true, true, true, true, false, true, true, true, false, false, false, false, false, false, false, false, false, false, false] rfl rfl (any_of HT_.out (by kernel_rfl)) (fun _ _ _ h => h) (Or.inl ⟨by rfl, ?_⟩) ?_ ?_
       rotate_left
       ·intro w'
        go_simp
        with_reducible rfl
       rotate_left
       ·simp only [Act.put, List.setIfInBounds_toArray, List.set_cons_zero, List.set_cons_succ, i64_w, i32_w]
        rfl
       refine pure_ (i := 9) (N := some 20) (v := ?_) (a' := ?_) #[true, true, true, true, true, false, true, true, true, true, false, false, false, false, false, false, false, false, false, false] rfl rfl (any_of HT_.out (by kernel_rfl)) (fun _ _ _ h => h) (Or.inl ⟨by rfl, ?_⟩) ?_ ?_
       rotate_left
       ·intro w'
        go_simp
        with_reducible rfl
       rotate_left
       ·simp only [Act.put, List.setIfInBounds_toArray, List.set_cons_zero, List.set_cons_succ, i64_w, i32_w]
        rfl
       refine pure_ (i := 11) (N := some 22) (v := ?_) (a' := ?_) #[true, true, true, true, true, false, true, true, true, true, false, true, false, false, false, false, false, false, false, false] rfl rfl (any_of HT_.out (by kernel_rfl)) (fun _ _ _ h => h) (Or.inl ⟨by rfl, ?_⟩) ?_ ?_
       rotate_left
       ·intro w'
        go_simp
        with_reducible rfl
       rotate_left
       ·simp only [Act.put, List.setIfInBounds_toArray, List.set_cons_zero, List.set_cons_succ, i64_w, i32_w]
        rfl
       refine pure_ (i := 12) (N := some 23) (v := ?_) (a' := ?_) #[true, true, true, true, true, false, true, true, true, true, false, true, true, false, false, false, false, false, false, false] rfl rfl (any_of HT_.out (by kernel_rfl)) (fun _ _ _ h => h) (Or.inl ⟨by rfl, ?_⟩) ?_ ?_
       rotate_left
       ·intro w'
        go_simp
        with_reducible rfl
       rotate_left
       ·simp only [Act.put, List.setIfInBounds_toArray, List.set_cons_zero, List.set_cons_succ, i64_w, i32_w]
        rfl
       refine pure_ (i := 13) (N := some 24) (v := ?_) (a' := ?_) #[true, true, true, true, true, false, true, true, true, true, false, true, true, true, false, false, false, false, false, false] rfl rfl (any_of HT_.out (by kernel_rfl)) (fun _ _ _ h => h) (Or.inl ⟨by rfl, ?_⟩) ?_ ?_
       rotate_left
       ·intro w'
        go_simp
        with_reducible rfl
       rotate_left
       ·simp only [Act.put, List.setIfInBounds_toArray, List.set_cons_zero, List.set_cons_succ, i64_w, i32_w]
        rfl
       refine pure_ (i := 14) (N := some 25) (v := ?_) (a' := ?_) #[true, true, true, true, true, false, true, true, true, true, false, true, true, true, true, false, false, false, false, false] rfl rfl (any_of HT_.out (by kernel_rfl)) (fun _ _ _ h => h) (Or.inl ⟨by rfl, ?_⟩) ?_ ?_
       rotate_left
       ·intro w'
        go_simp
        with_reducible rfl
       rotate_left
       ·simp only [Act.put, List.setIfInBounds_toArray, List.set_cons_zero, List.set_cons_succ, i64_w, i32_w]
        rfl
       refine take_ (i := 5) (N := some 16) (v := ?_) (a' := ?_) #[true, true, true, true, true, true, true, true, true, true, false, true, true, true, true, false, false, false, false, false] rfl rfl (take_ofW HT_.out HW_.out (by kernel_rfl)) (fun _ _ _ h => h) (Or.inl ⟨by rfl, ?_⟩) hHeld ?_ ?_
       rotate_left
       ·rintro w' ⟨s0, s1, s2, s3, s4, s5, s6, s7, s8⟩
        go_simp
        with_reducible rfl
       rotate_left
       ·simp only [Act.put, List.setIfInBounds_toArray, List.set_cons_zero, List.set_cons_succ, i64_w, i32_w]
        rfl
       refine take_ (i := 10) (N := some 21) (v := ?_) (a' := ?_) #[true, true, true, true, true, true, true, true, true, true, true, true, true, true, true, false, false, false, false, false] rfl rfl (take_ofW HT_.out HW_.out (by kernel_rfl)) (fun _ _ _ h => h) (Or.inl ⟨by rfl, ?_⟩) hHeld ?_ ?_
       rotate_left
       ·rintro w' ⟨s0, s1, s2, s3, s4, s5, s6, s7, s8⟩
        go_simp
        with_reducible rfl
       rotate_left
       ·simp only [Act.put, List.setIfInBounds_toArray, List.set_cons_zero, List.set_cons_succ, i64_w, i32_w]
        rfl
       refine take_ (i := 15) (N := some 26) (v := ?_) (a' := ?_) #[true, true, true, true, true, true, true, true, true, true, true, true, true, true, true, true, false, false, false, false] rfl rfl (take_ofW HT_.out HW_.out (by kernel_rfl)) (fun _ _ _ h => h) (Or.inl ⟨by rfl, ?_⟩) hHeld ?_ ?_
       rotate_left
       ·rintro w' ⟨s0, s1, s2, s3, s4, s5, s6, s7, s8⟩
        go_simp
        with_reducible rfl
       rotate_left
       ·simp only [Act.put, List.setIfInBounds_toArray, List.set_cons_zero, List.set_cons_succ, i64_w, i32_w]
        rfl
       refine pure_ (i := 16) (N := some 27) (v := ?_) (a' := ?_) #[true, true, true, true, true, true, true, true, true, true, true, true, true, true, true, true, true, false, false, false] rfl rfl (any_of HT_.out (by kernel_rfl)) (fun _ _ _ h => h) (Or.inl ⟨by rfl, ?_⟩) ?_ ?_
       rotate_left
       ·intro w'
        go_simp
        with_reducible rfl
       rotate_left
       ·simp only [Act.put, List.setIfInBounds_toArray, List.set_cons_zero, List.set_cons_succ, i64_w, i32_w]
        rfl
       (refine last_ (i := 17) (N := some 28) #[true, true, true, true, true, true, true, true, true, true, true, true, true, true, true, true, true, true, false, false] rfl rfl (one_of HT_.out (by kernel_rfl)) (by decide) (fun K hK => ?_));(refine value_ (w1 := ?_) (v := ?_) (by rfl) rfl ?_ ?_)
       rotate_left 2
       ·go_simp
        constructor
        ·rfl
        ·rfl
       (refine hK.out _ _ ?_);(clear hK K);(refine norm_ (a' := ?_) ?_ ?_)
       rotate_left
       ·show Act.put _ (some 28) _ = _
        simp only [Act.put, List.setIfInBounds_toArray, List.set_cons_zero, List.set_cons_succ, i64_w, i32_w]
        rfl
       (refine last_ (i := 18) (N := some 29) #[true, true, true, true, true, true, true, true, true, true, true, true, true, true, true, true, true, true, true, false] rfl rfl (one_of HT_.out (by kernel_rfl)) (by decide) (fun K hK => ?_));(refine Kd.N_append_step k67 (w0 := w) w.heap.size (by rfl) (.tmp 11) (.tmp 28) 50 67 (.agg #[(.int .u8 0), (.slice none 0 0), (.int .i64 0)]) 40 rfl Try.underlying50 info67 rfl (by decide) (by omega) u3 x3_1 (⟨(rd_T36 l0 x4_1).f0, (rd_T36 l0 x4_1).f1, (rd_T36 l0 x4_1).f2⟩ : S67) [.int .u8 ((rd_T36 l0 x4_1).f0), .slice A228_1 ((rd_T36 l0 x4_1).f1).length c228_1, .int .i64 ((rd_T36 l0 x4_1).f2)] (fun k_ => (P0_ k_ ∨ w.heap.size ≤ k_)) (fun k_ => ((fun k_ => (P0_ k_ ∨ w.heap.size ≤ k_))) k_ ∧ some k_ ≠ (u3 : Value).ownBlock) rfl rfl ?aP (fun _ hk => hk) ?aF ?aO ?aB ?aS ?aL ?_)
       (case aP => exact (k67_mkF _ _ (⟨(rd_T36 l0 x4_1).f0, (rd_T36 l0 x4_1).f1, (rd_T36 l0 x4_1).f2⟩ : S67) (Kd.V_reads' (Kd.V_mono (ok' := (fun k_ => ((fun k_ => (P0_ k_ ∨ w.heap.size ≤ k_))) k_ ∧ some k_ ≠ (u3 : Value).ownBlock)) (HL229_1.out) (fun k_ hk => ⟨hk.1, hk.2⟩))).2.1 (Kd.V_F (Kd.V_mono (ok' := (fun k_ => ((fun k_ => (P0_ k_ ∨ w.heap.size ≤ k_))) k_ ∧ some k_ ≠ (u3 : Value).ownBlock)) (HL229_1.out) (fun k_ hk => ⟨hk.1, hk.2⟩)))))
       (case aB => exact (by repeat (first | (with_reducible first | exact HB.out | apply below_alloc | apply pw_below_drewN | apply below_drew1) | exact HB.out)))
       (case aF => exact (fun k_ hk => (.inr (Nat.le_trans (below_size (by repeat (first | (with_reducible first | exact HB.out | apply below_alloc | apply pw_below_drewN | apply below_drew1) | exact HB.out))) hk))))
       (case aO => exact (by (with_reducible repeat (first | apply Kd.N_alloc | apply Kd.N_drewN | apply Kd.N_drew)); exact HO_3.out))
       (case aS => exact (below_size (by repeat (first | (with_reducible first | exact HB.out | apply below_alloc | apply pw_below_drewN | apply below_drew1) | exact HB.out))))
       (case aL => have := LMc4.out; omega)
       (intro v232 w6 ho hb hg hat);(rw [← Ny231.out] at ho);(have n0_ := Aside0.mk (Kd.V_afterv (ok := (fun k_ => (P0_ k_ ∨ w.heap.size ≤ k_))) (by (with_reducible repeat (first | apply Kd.V_alloc | apply Kd.V_drewN | apply Kd.V_drew)); exact HO_0.out) hg hat));(have n1_ := Aside0.mk (Kd.V_afterv (ok := (fun k_ => (P0_ k_ ∨ w.heap.size ≤ k_))) (by (with_reducible repeat (first | apply Kd.V_alloc | apply Kd.V_drewN | apply Kd.V_drew)); exact HL228_1.out) hg hat));(have n2_ := Aside0.mk (Kd.V_afterv (ok := (fun k_ => (P0_ k_ ∨ w.heap.size ≤ k_))) (by (with_reducible repeat (first | apply Kd.V_alloc | apply Kd.V_drewN | apply Kd.V_drew)); exact HL229_1.out) hg hat));(have n3_ := Aside0.mk (Kd.V_afterv (ok := (fun k_ => (P0_ k_ ∨ w.heap.size ≤ k_))) (by (with_reducible repeat (first | apply Kd.V_alloc | apply Kd.V_drewN | apply Kd.V_drew)); exact HL230_1.out) hg hat));(have n4_ := Aside0.mk (hb));(have n5_ := Aside0.mk (ho));(clear HO_0);(clear HL228_1);(clear HL229_1);(clear HL230_1);(clear HB);(clear HO_3);(have HO_0 := n0_);(have HL228_1 := n1_);(have HL229_1 := n2_);(have HL230_1 := n3_);(have HB := n4_);(have HO233 := n5_);(clear n0_ n1_ n2_ n3_ n4_ n5_);(clear ho hb hg hat);(refine hK.out _ _ ?_);(clear hK K);(refine norm_ (a' := ?_) ?_ ?_)
       rotate_left
       ·show Act.put _ (some 29) _ = _
        simp only [Act.put, List.setIfInBounds_toArray, List.set_cons_zero, List.set_cons_succ, i64_w, i32_w]
        rfl
       refine pure_ (i := 19) (N := some 3) (v := ?_) (a' := ?_) #[true, true, true, true, true, true, true, true, true, true, true, true, true, true, true, true, true, true, true, true] rfl rfl (any_of HT_.out (by kernel_rfl)) (fun _ _ _ h => h) (Or.inl ⟨by rfl, ?_⟩) ?_ ?_
       rotate_left
       ·intro w'
        go_simp
        with_reducible rfl
       rotate_left
       ·simp only [Act.put, List.setIfInBounds_toArray, List.set_cons_zero, List.set_cons_succ, i64_w, i32_w]
        rfl
       refine done_ (done_of HT_.out (by kernel_rfl)) ?_
       try go_wp2
       go_roundg k1
       case measure => have := HK1.out; omega
       case rel => exact ⟨(y231), (wrap64 (x4_1 + 1)), (by first | rfl | (simp; done) | (simp [*]; done)), H', ⟨by have := HK1.out; omega⟩, ⟨by (with_reducible repeat (first | apply Kd.V_alloc | apply Kd.V_drewN | apply Kd.V_drew)); exact HO_0.out⟩, ⟨by (with_reducible repeat (first | apply Kd.N_alloc | apply Kd.N_drewN | apply Kd.N_drew)); exact HO233.out⟩, ⟨by repeat (first | (with_reducible first | exact HB.out | apply below_alloc | apply pw_below_drewN | apply below_drew1) | exact HB.out)⟩⟩
     ·(rw [if_neg c4] at H);(exact absurd H (by simp))
    ·(rw [if_neg c3] at H);(exact absurd H (by simp))
   ·(rw [if_neg c2] at H);(have c2b0 : decide (x4_1 < (l0.length : Int)) = false := decide_eq_false c2);(clear c2)
    as_aux_lemma =>
     obtain rfl := Option.some.inj H
     go_wp2
     go_ret
     exact ⟨_, by first | rfl | (simp [errW_none, errW_some] <;> rfl) | (simp [*, errW_none, errW_some] <;> rfl), by (with_reducible repeat (first | apply Kd.N_alloc | apply Kd.N_drewN | apply Kd.N_drew)); exact HO_3.out, by repeat (first | (with_reducible first | exact HB.out | apply below_alloc | apply pw_below_drewN | apply below_drew1) | exact HB.out)⟩
end Go.Proofs.Ytnjdjnoncoeffaa.PDecompTwice
