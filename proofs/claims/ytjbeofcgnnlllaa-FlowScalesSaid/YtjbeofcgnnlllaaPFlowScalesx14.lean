/- For the claim that the law FlowScales of the given program holds for every input: a text written by a program (wip/myprint over the kit's print), with contracts by hand where it says MANUAL. -/
import Derived.Test.YtjbeofcgnnlllaaPFlowScalesx0
import Derived.Test.YtjbeofcgnnlllaaPFlowScalesx6
import Derived.Test.YtjbeofcgnnlllaaPFlowScalesx7
import Derived.Test.YtjbeofcgnnlllaaPFlowScalesx8
import Derived.Test.YtjbeofcgnnlllaaPFlowScalesx9
import Derived.Test.YtjbeofcgnnlllaaPFlowScalesx11
import Derived.Test.YtjbeofcgnnlllaaPFlowScalesx12
import Derived.Test.YtjbeofcgnnlllaaPFlowScalesx13
namespace Go.Proofs.Ytjbeofcgnnlllaa.PFlowScales
open Go.RowKit Go.Proofs.YtjbeofcgnnlllaaW.PrintWords Go.Proofs.YtjbeofcgnnlllaaW.PrintLast Go.Proofs.YtjbeofcgnnlllaaW.PrintMore
attribute [local go_sem] max2_int min2_int max_two min_two max_three min_three max_four min_four   -- for this text's walks alone
set_option linter.unusedVariables false
set_option linter.unusedSimpArgs false

/-! ### racewaylaw5_FlowScales: function 11 -/
def racewaylaw5_FlowScales.l0 : Nat → List Int → Int → List Int → Int → Int → Int → Int → List (S28) → Int → Int → Int → List (S28) → Option (Bool)
  | 0, _, _, _, _, _, _, _, _, _, _, _, _ => none
  | k + 1, x13, x14, x16, x17, x215000, x215001, x215002, x215003, x220000, x220001, x220002, x220003 => if x17 < (x13.length : Int) then (if 0 ≤ x17 then (if x17 < (x215003.length : Int) then (if x220003.length < 5864062014805 then (if x17 < (x16.length : Int) then (racewaylaw5_FlowScales.l0 k x13 x14 (x16.set (x17 : Int).toNat (wrap64 (x14 * (rd x13 x17)))) (wrap64 (x17 + 1)) x215000 x215001 x215002 x215003 x220000 x220001 x220002 (x220003 ++ [(⟨(rd_T28 x215003 x17).f0, (rd_T28 x215003 x17).f1, wrap64 (x14 * ((rd_T28 x215003 x17).f2))⟩ : S28)])) else (none)) else (none)) else (none)) else (none)) else ((flow_Value.f k x215000 x215001 x215002 x215003 x13).bind fun bt231 => ((flow_Value.f k x220000 x220001 x220002 x220003 x16).bind fun bt233 => (if 0 ≤ (x16.length : Int) then (if ((x16.length : Int) : Int).toNat ≤ 35184372088832 then ((flow_Add.f k x220000 x220001 x220002 x220003 x16 (List.replicate ((x16.length : Int) : Int).toNat 0)).bind fun bt238 => (if bt231.2 = 0 then (if bt233.2 = 0 then (if bt233.1 = (wrap64 (x14 * bt231.1)) then (if bt238.2 = 0 then ((racewayref5_Same.f k bt238.1 x16).bind fun t242 => (some t242)) else (some false)) else (some false)) else (some false)) else (some false))) else (none)) else (none))))
def racewaylaw5_FlowScales.f (k : Nat) (a0 : Int) (a1 : Int) (l2 : List (S73)) (l3 : List Int) (a4 : Int) : Option (Bool) := (racewaylaw5_shown.f k).bind fun t207 => (if t207 = true then ((racewaylaw5_made.f k a0 a1 l2).bind fun bt208 => ((racewaylaw5_routed.f k bt208.1 bt208.2.1 bt208.2.2.1 bt208.2.2.2 l3).bind fun t215 => ((racewaylaw5_pick.f a4 1000).bind fun t218 => (if 0 ≤ (t215.length : Int) then (if ((t215.length : Int) : Int).toNat ≤ 35184372088832 then (racewaylaw5_FlowScales.l0 k t215 (wrap64 (1 + t218)) (List.replicate ((t215.length : Int) : Int).toNat 0) 0 bt208.1 bt208.2.1 bt208.2.2.1 bt208.2.2.2 bt208.1 bt208.2.1 bt208.2.2.1 ([] : List (S28))) else (none)) else (none))))) else (some false))
theorem racewaylaw5_FlowScales.mono_l : ∀ k, (∀ y0 y1 y2 y3 y4 y5 y6 y7 y8 y9 y10 y11, LeO (racewaylaw5_FlowScales.l0 k y0 y1 y2 y3 y4 y5 y6 y7 y8 y9 y10 y11) (racewaylaw5_FlowScales.l0 (k + 1) y0 y1 y2 y3 y4 y5 y6 y7 y8 y9 y10 y11))
  | 0 => fun _ _ _ _ _ _ _ _ _ _ _ _ r h => by simp [racewaylaw5_FlowScales.l0] at h
  | k + 1 => by
    have ih0 := racewaylaw5_FlowScales.mono_l k
    · intro y0 y1 y2 y3 y4 y5 y6 y7 y8 y9 y10 y11
      unfold racewaylaw5_FlowScales.l0
      repeat' first
      | (with_reducible exact ih0 _ _ _ _ _ _ _ _ _ _ _ _)
      | (with_reducible exact flow_Add.mono _ _ _ _ _ _ _)
      | (with_reducible exact flow_Value.mono _ _ _ _ _ _)
      | (with_reducible exact racewaylaw5_made.mono _ _ _ _)
      | (with_reducible exact racewaylaw5_routed.mono _ _ _ _ _ _)
      | (with_reducible exact racewaylaw5_shown.mono _)
      | (with_reducible exact racewayref5_Same.mono _ _ _)
      | (with_reducible exact LeO.refl _)
      | (with_reducible exact LeO.none _)
      | (with_reducible refine LeO.ite ?_ ?_)
      | (with_reducible refine LeO.bind ?_ (fun _ => ?_))
      | exact ih0 _ _ _ _ _ _ _ _ _ _ _ _
      | exact flow_Add.mono _ _ _ _ _ _ _
      | exact flow_Value.mono _ _ _ _ _ _
      | exact racewaylaw5_made.mono _ _ _ _
      | exact racewaylaw5_routed.mono _ _ _ _ _ _
      | exact racewaylaw5_shown.mono _
      | exact racewayref5_Same.mono _ _ _
      | exact LeO.none _
      | refine LeO.ite ?_ ?_
      | refine LeO.bind ?_ (fun _ => ?_)
theorem racewaylaw5_FlowScales.mono : ∀ a0 a1 a2 a3 a4 k, LeO (racewaylaw5_FlowScales.f k a0 a1 a2 a3 a4) (racewaylaw5_FlowScales.f (k + 1) a0 a1 a2 a3 a4) := by
  intro a0 a1 a2 a3 a4 k
  have ih0 := racewaylaw5_FlowScales.mono_l k
  unfold racewaylaw5_FlowScales.f
  repeat' first
      | (with_reducible exact ih0 _ _ _ _ _ _ _ _ _ _ _ _)
      | (with_reducible exact flow_Add.mono _ _ _ _ _ _ _)
      | (with_reducible exact flow_Value.mono _ _ _ _ _ _)
      | (with_reducible exact racewaylaw5_made.mono _ _ _ _)
      | (with_reducible exact racewaylaw5_routed.mono _ _ _ _ _ _)
      | (with_reducible exact racewaylaw5_shown.mono _)
      | (with_reducible exact racewayref5_Same.mono _ _ _)
      | (with_reducible exact LeO.refl _)
      | (with_reducible exact LeO.none _)
      | (with_reducible refine LeO.ite ?_ ?_)
      | (with_reducible refine LeO.bind ?_ (fun _ => ?_))
      | exact ih0 _ _ _ _ _ _ _ _ _ _ _ _
      | exact flow_Add.mono _ _ _ _ _ _ _
      | exact flow_Value.mono _ _ _ _ _ _
      | exact racewaylaw5_made.mono _ _ _ _
      | exact racewaylaw5_routed.mono _ _ _ _ _ _
      | exact racewaylaw5_shown.mono _
      | exact racewayref5_Same.mono _ _ _
      | exact LeO.none _
      | refine LeO.ite ?_ ?_
      | refine LeO.bind ?_ (fun _ => ?_)
def racewaylaw5_FlowScales.T12 : Bool × List (List Nat × List Nat) := (true, [([], []), ([0], [0]), ([], []), ([2], [2]), ([], []), ([3, 4], [3, 4]), ([5], [5]), ([6], [6]), ([], []), ([8], [8]), ([], []), ([9, 10], [9, 10]), ([11], [11]), ([12], [12]), ([], []), ([], []), ([15], [15]), ([], []), ([16, 17], [16, 17]), ([18], [18]), ([19], [19]), ([14, 20], [14, 20]), ([7, 13, 21], [7, 13, 21]), ([22], [22]), ([1, 23], [1, 23]), ([0, 1, 2, 3, 4, 5, 6, 7, 8, 9, 10, 11, 12, 13, 14, 15, 16, 17, 18, 19, 20, 21, 22, 23, 24], []), ([25, 24, 24, 0, 1, 2, 3, 4, 5, 6, 7, 8, 9, 10, 11, 12, 13, 14, 15, 16, 17, 18, 19, 20, 21, 22, 23, 24], [24, 25])])
def racewaylaw5_FlowScales.B12 : List Nat := [0, 1, 0, 4, 0, 28, 60, 124, 0, 256, 0, 1792, 3840, 7936, 0, 0, 32768, 0, 229376, 491520, 1015808, 2080768, 4194300, 8388604, 16777215, 33554431, 67108863]
theorem racewaylaw5_FlowScales.tab12 : rtab .any (opsOf Try.f11 12) = racewaylaw5_FlowScales.T12 := by kernel_rfl
theorem racewaylaw5_FlowScales.bits12 : waitsOk racewaylaw5_FlowScales.T12.2 racewaylaw5_FlowScales.B12 = true := by kernel_rfl
def racewaylaw5_FlowScales.T16 : Bool × List (List Nat × List Nat) := (true, [([], []), ([], []), ([], []), ([2], [2]), ([3, 3], [3]), ([0, 1, 4], [0, 1, 4]), ([5], [5]), ([6], [6]), ([6], [6]), ([7, 5, 0, 1, 2, 3, 4, 5, 6, 7], [7]), ([8, 9, 0, 1, 2, 3, 4, 5, 6, 7, 8, 9], [8])])
def racewaylaw5_FlowScales.B16 : List Nat := [0, 0, 0, 4, 12, 31, 63, 127, 127, 255, 1023]
theorem racewaylaw5_FlowScales.tab16 : rtab .any (opsOf Try.f11 16) = racewaylaw5_FlowScales.T16 := by kernel_rfl
theorem racewaylaw5_FlowScales.bits16 : waitsOk racewaylaw5_FlowScales.T16.2 racewaylaw5_FlowScales.B16 = true := by kernel_rfl
set_option maxHeartbeats 8000000 in
set_option maxRecDepth 100000 in
theorem racewaylaw5_FlowScales.calls (k : Nat) (a0 : Int) (a1 : Int) (A2 : Option Addr) (c2 : Nat) (l2 : List (S73)) (A3 : Option Addr) (c3 : Nat) (l3 : List Int) (a4 : Int) (r : Bool) (w : World) (hr2 : Kd.C k73 w A2 l2.length l2) (hc2 : l2.length ≤ c2) (hr3 : Kd.C (Kd.int .i64) w A3 l3.length l3) (hc3 : l3.length ≤ c3) (h : racewaylaw5_FlowScales.f k a0 a1 l2 l3 a4 = some r) (hrT_ : Aside0 (r = true)) :
    Calls Try.prog 11 #[.int .i64 a0, .int .i64 a1, .slice A2 l2.length c2, .slice A3 l3.length c3, .int .i64 a4] w fun e w' => e = .returned (.bool r) ∧ Below w.heap.size w w' := by
  have hu26 := Try.underlying26
  have hu28 := Try.underlying28
  have HR2 := Aside0.mk hr2
  have HC2 := Aside0.mk hc2
  clear hr2 hc2
  have HR3 := Aside0.mk hr3
  have HC3 := Aside0.mk hc3
  clear hr3 hc3
  have HB := Aside0.mk (Below.refl w.heap.size w)
  have H : ((racewaylaw5_shown.f k).bind fun t207 => (if t207 = true then ((racewaylaw5_made.f k a0 a1 l2).bind fun bt208 => ((racewaylaw5_routed.f k bt208.1 bt208.2.1 bt208.2.2.1 bt208.2.2.2 l3).bind fun t215 => ((racewaylaw5_pick.f a4 1000).bind fun t218 => (if 0 ≤ (t215.length : Int) then (if ((t215.length : Int) : Int).toNat ≤ 35184372088832 then (racewaylaw5_FlowScales.l0 k t215 (wrap64 (1 + t218)) (List.replicate ((t215.length : Int) : Int).toNat 0) 0 bt208.1 bt208.2.1 bt208.2.2.1 bt208.2.2.2 bt208.1 bt208.2.1 bt208.2.2.1 ([] : List (S28))) else (none)) else (none))))) else (some false))) = some r := h
  clear h
  replace H := Option.bind_eq_some_iff.mp H
  obtain ⟨t207, A60, H⟩ := H
  replace H : (if t207 = true then ((racewaylaw5_made.f k a0 a1 l2).bind fun bt208 => ((racewaylaw5_routed.f k bt208.1 bt208.2.1 bt208.2.2.1 bt208.2.2.2 l3).bind fun t215 => ((racewaylaw5_pick.f a4 1000).bind fun t218 => (if 0 ≤ (t215.length : Int) then (if ((t215.length : Int) : Int).toNat ≤ 35184372088832 then (racewaylaw5_FlowScales.l0 k t215 (wrap64 (1 + t218)) (List.replicate ((t215.length : Int) : Int).toNat 0) 0 bt208.1 bt208.2.1 bt208.2.2.1 bt208.2.2.2 bt208.1 bt208.2.1 bt208.2.2.1 ([] : List (S28))) else (none)) else (none))))) else (some false)) = some r := H
  have A6 := Aside0.mk A60
  clear A60
  by_cases c7 : t207 = true
  · subst c7
    have H1 : ((racewaylaw5_made.f k a0 a1 l2).bind fun bt208 => ((racewaylaw5_routed.f k bt208.1 bt208.2.1 bt208.2.2.1 bt208.2.2.2 l3).bind fun t215 => ((racewaylaw5_pick.f a4 1000).bind fun t218 => (if 0 ≤ (t215.length : Int) then (if ((t215.length : Int) : Int).toNat ≤ 35184372088832 then (racewaylaw5_FlowScales.l0 k t215 (wrap64 (1 + t218)) (List.replicate ((t215.length : Int) : Int).toNat 0) 0 bt208.1 bt208.2.1 bt208.2.2.1 bt208.2.2.2 bt208.1 bt208.2.1 bt208.2.2.1 ([] : List (S28))) else (none)) else (none))))) = some r := by rw [if_pos rfl] at H; exact H
    clear H
    have H := H1
    clear H1
    replace H := Option.bind_eq_some_iff.mp H
    obtain ⟨⟨t208, t209, t210, t211⟩, A80, H⟩ := H
    replace H : ((racewaylaw5_routed.f k t208 t209 t210 t211 l3).bind fun t215 => ((racewaylaw5_pick.f a4 1000).bind fun t218 => (if 0 ≤ (t215.length : Int) then (if ((t215.length : Int) : Int).toNat ≤ 35184372088832 then (racewaylaw5_FlowScales.l0 k t215 (wrap64 (1 + t218)) (List.replicate ((t215.length : Int) : Int).toNat 0) 0 t208 t209 t210 t211 t208 t209 t210 ([] : List (S28))) else (none)) else (none)))) = some r := H
    have A8 := Aside0.mk A80
    clear A80
    replace H := Option.bind_eq_some_iff.mp H
    obtain ⟨t215, A90, H⟩ := H
    replace H : ((racewaylaw5_pick.f a4 1000).bind fun t218 => (if 0 ≤ (t215.length : Int) then (if ((t215.length : Int) : Int).toNat ≤ 35184372088832 then (racewaylaw5_FlowScales.l0 k t215 (wrap64 (1 + t218)) (List.replicate ((t215.length : Int) : Int).toNat 0) 0 t208 t209 t210 t211 t208 t209 t210 ([] : List (S28))) else (none)) else (none))) = some r := H
    have A9 := Aside0.mk A90
    clear A90
    replace H := Option.bind_eq_some_iff.mp H
    obtain ⟨t218, A100, H⟩ := H
    replace H : (if 0 ≤ (t215.length : Int) then (if ((t215.length : Int) : Int).toNat ≤ 35184372088832 then (racewaylaw5_FlowScales.l0 k t215 (wrap64 (1 + t218)) (List.replicate ((t215.length : Int) : Int).toNat 0) 0 t208 t209 t210 t211 t208 t209 t210 ([] : List (S28))) else (none)) else (none)) = some r := H
    have A10 := Aside0.mk A100
    clear A100
    by_cases c11 : 0 ≤ (t215.length : Int)
    · rw [if_pos c11] at H
      have c11b0 := eq_true c11
      have c11b1 : decide (0 ≤ (t215.length : Int)) = true := decide_eq_true c11
      clear c11
      by_cases c12 : ((t215.length : Int) : Int).toNat ≤ 35184372088832
      · rw [if_pos c12] at H
        have c12b0 := eq_true c12
        have c12b1 : decide (((t215.length : Int) : Int).toNat ≤ 35184372088832) = true := decide_eq_true c12
        clear c12
        obtain ⟨y220, hy220⟩ : ∃ y_ : List Int, y_ = (List.replicate ((t215.length : Int) : Int).toNat 0) := ⟨_, rfl⟩
        replace H : (racewaylaw5_FlowScales.l0 k t215 (wrap64 (1 + t218)) y220 0 t208 t209 t210 t211 t208 t209 t210 ([] : List (S28))) = some r := by first | (rw [hy220]; with_reducible exact H) | (have H2_ := (Option.bind_some _ _).symm.trans H; rw [hy220]; with_reducible exact H2_) | (have H2_ := (Option.bind_some _ _).symm.trans H; with_reducible exact H2_) | with_reducible exact H | (rw [hy220]; exact H) | exact H
        have Ny220 := Aside0.mk hy220
        clear hy220
        have H' := Aside0.mk H
        clear H
        go_enter Try.func11, Try.ntmps11
        go_wp2_with (first | ((with_reducible refine gate_callee (f := 24) rfl ?_); refine goesL_ (some 24) rfl rfl Try.func24 (by kernel_rfl) rfl #[] rfl (by (try simp only [List.map_toArray, List.map_cons, List.map_nil]); first | done | rfl | (simp only [List.length_drop, List.length_take]; rfl)) ?_; (with_reducible refine (racewaylaw5_shown.calls k  true _ A6.out).mono ?_); rintro e w13 ⟨rfl, hb⟩; refine ⟨_, rfl, ?_⟩; have n0_ := Aside0.mk (below_step (by repeat (first | (with_reducible first | exact HB.out | apply below_alloc | apply pw_below_drewN | apply below_drew1) | exact HB.out)) hb); clear HB; have HB := n0_; clear n0_; (try clear hb); (try clear hb2); (try clear hk); (try clear hi)) | ((with_reducible refine gate_callee (f := 25) rfl ?_); refine goesL_ (some 30) rfl rfl Try.func25 (by kernel_rfl) rfl #[.int .i64 a0, .int .i64 a1, .slice A2 l2.length c2] rfl (by (try simp only [List.map_toArray, List.map_cons, List.map_nil]); first | done | rfl | (simp only [List.length_drop, List.length_take]; rfl)) ?_; (with_reducible refine (racewaylaw5_made.calls k a0 a1 _ _ l2 t208 t209 t210 t211 _ ?side1 ?side2 A8.out).mono ?_); (case side1 => repeat (first | exact (Kd.C_below HR2.out HB.out) | (with_reducible refine Kd.C_alloc ?_ _) | (with_reducible refine Kd.C_drewN ?_ _) | (with_reducible refine Kd.C_drew ?_))); (case side2 => exact HC2.out); rintro e w14 ⟨v212, rfl, ho0, hb⟩; refine ⟨_, rfl, ?_⟩; have n0_ := Aside0.mk (Kd.R_lower ho0 (below_size (by repeat (first | (with_reducible first | exact HB.out | apply below_alloc | apply pw_below_drewN | apply below_drew1) | exact HB.out)))); have n1_ := Aside0.mk (below_step (by repeat (first | (with_reducible first | exact HB.out | apply below_alloc | apply pw_below_drewN | apply below_drew1) | exact HB.out)) hb); clear HB; have HO213 := n0_; have HB := n1_; clear n0_ n1_; (try clear hb); (try clear hb2); (try clear hk); (try clear hi); (try clear ho0)) | ((with_reducible refine gate_dst (N := 12) rfl ?_); refine box_event ?hg (N := 12) ?hd (cs := #[.int .i64 0, .int .i64 0, .int .i64 0, .slice none 0 0]) (t := 26) ?hr ?_; (case hd => rfl); (case hg => rfl); (case hr => first | (go_simp; done) | (go_simp; rfl)); intro gb214 hg w15 hbox hb; have n0_ := Aside0.mk (Kd.R_below (by (with_reducible repeat (first | apply Kd.R_alloc | apply Kd.R_drewN | apply Kd.R_drew)); exact HO213.out) hb); have n1_ := Aside0.mk (below_step (by repeat (first | (with_reducible first | exact HB.out | apply below_alloc | apply pw_below_drewN | apply below_drew1) | exact HB.out)) hb); have n2_ := Aside0.mk (hbox); have n3_ := Aside0.mk ((by rw [hg]; exact (below_size (by repeat (first | (with_reducible first | exact HB.out | apply below_alloc | apply pw_below_drewN | apply below_drew1) | exact HB.out))) : w.heap.size ≤ gb214)); have n4_ := Aside0.mk ((by rw [hg]; exact (below_size (by repeat (first | (with_reducible first | exact HB.out | apply below_alloc | apply pw_below_drewN | apply below_drew1) | exact HB.out))) : w.heap.size ≤ gb214)); clear HO213; clear HB; have HO213 := n0_; have HB := n1_; have BK214 := n2_; have GW214 := n3_; have GE214 := n4_; clear n0_ n1_ n2_ n3_ n4_; clear hb hbox hg; have hcz16_0 : w15.cell? ⟨gb214, 0, none⟩ = some (.int .i64 0) := (blk_cell BK214.out 0).trans rfl; have hcz16_1 : w15.cell? ⟨gb214, 1, none⟩ = some (.int .i64 0) := (blk_cell BK214.out 1).trans rfl; have hcz16_2 : w15.cell? ⟨gb214, 2, none⟩ = some (.int .i64 0) := (blk_cell BK214.out 2).trans rfl; have hcz16_3 : w15.cell? ⟨gb214, 3, none⟩ = some (.slice none 0 0) := (blk_cell BK214.out 3).trans rfl; have hfz16_0 := blk_frozen BK214.out 0; have hfz16_1 := blk_frozen BK214.out 1; have hfz16_2 := blk_frozen BK214.out 2; have hfz16_3 := blk_frozen BK214.out 3; obtain ⟨Ao17, co17, eo17⟩ := Kd.R_slice HO213.out; subst eo17) | ((with_reducible refine gate_callee (f := 26) rfl ?_); refine goesL_ (some 33) rfl rfl Try.func26 (by kernel_rfl) rfl #[.agg #[.int .i64 t208, .int .i64 t209, .int .i64 t210, .slice Ao17 t211.length co17], .slice A3 l3.length c3] rfl (by (try simp only [List.map_toArray, List.map_cons, List.map_nil]); first | done | rfl | (simp only [List.length_drop, List.length_take]; rfl)) ?_; (with_reducible refine (racewaylaw5_routed.calls k t208 t209 t210 _ _ t211 _ _ l3 t215 _ ?side1 ?side2 ?side3 ?side4 A9.out).mono ?_); (case side1 => refine (Kd.R_reads' (e := 28) (base := w.heap.size) (ok := fun k_ => True) (n := t211.length) (c := co17) ?_).2.2; exact (by (with_reducible repeat (first | apply Kd.R_alloc | apply Kd.R_drewN | apply Kd.R_drew)); exact (Kd.R_mono (Kd.R_far (p := ⟨gb214, 3, none⟩) (Kd.R_far (p := ⟨gb214, 2, none⟩) (Kd.R_far (p := ⟨gb214, 1, none⟩) (Kd.R_far (p := ⟨gb214, 0, none⟩) (Kd.R_types HO213.out BK214.out (by decide)) (fun _ hk => hk.2) (.int .i64 t208)) (fun _ hk => hk.2) (.int .i64 t209)) (fun _ hk => hk.2) (.int .i64 t210)) (fun _ hk => hk.2) (.slice Ao17 t211.length co17)) (fun _ h_ => h_.1)))); (case side2 => exact (Kd.R_reads' HO213.out).2.1); (case side3 => exact Kd.C_below HR3.out (by repeat (first | (with_reducible first | exact HB.out | apply below_alloc | apply pw_below_drewN | apply below_drew1 | refine below_set ?_ GE214.out) | exact HB.out))); (case side4 => exact HC3.out); rintro e w18 ⟨v216, rfl, ho0, hb⟩; refine ⟨_, rfl, ?_⟩; have n0_ := Aside0.mk (Kd.R_below (by (with_reducible repeat (first | apply Kd.R_alloc | apply Kd.R_drewN | apply Kd.R_drew)); exact (Kd.R_mono (Kd.R_far (p := ⟨gb214, 3, none⟩) (Kd.R_far (p := ⟨gb214, 2, none⟩) (Kd.R_far (p := ⟨gb214, 1, none⟩) (Kd.R_far (p := ⟨gb214, 0, none⟩) (Kd.R_types HO213.out BK214.out (by decide)) (fun _ hk => hk.2) (.int .i64 t208)) (fun _ hk => hk.2) (.int .i64 t209)) (fun _ hk => hk.2) (.int .i64 t210)) (fun _ hk => hk.2) (.slice Ao17 t211.length co17)) (fun _ h_ => h_.1))) hb); have n1_ := Aside0.mk (Kd.R_lower ho0 (below_size (by repeat (first | (with_reducible first | exact HB.out | apply below_alloc | apply pw_below_drewN | apply below_drew1 | refine below_set ?_ GE214.out) | exact HB.out)))); have n2_ := Aside0.mk (blk_below (g := gb214) (o := .cells #[.int .i64 t208, .int .i64 t209, .int .i64 t210, .slice Ao17 t211.length co17] 26 (0, 0)) (by (with_reducible repeat (first | refine blk_drewN ?_ _ | refine blk_drew ?_ | refine blk_alloc ?_ _)); refine blk_put (cs := #[.int .i64 t208, .int .i64 t209, .int .i64 t210, .slice none 0 0]) ?_ 3 _ rfl; (with_reducible repeat (first | refine blk_drewN ?_ _ | refine blk_drew ?_ | refine blk_alloc ?_ _)); refine blk_put (cs := #[.int .i64 t208, .int .i64 t209, .int .i64 0, .slice none 0 0]) ?_ 2 _ rfl; (with_reducible repeat (first | refine blk_drewN ?_ _ | refine blk_drew ?_ | refine blk_alloc ?_ _)); refine blk_put (cs := #[.int .i64 t208, .int .i64 0, .int .i64 0, .slice none 0 0]) ?_ 1 _ rfl; (with_reducible repeat (first | refine blk_drewN ?_ _ | refine blk_drew ?_ | refine blk_alloc ?_ _)); refine blk_put (cs := #[.int .i64 0, .int .i64 0, .int .i64 0, .slice none 0 0]) ?_ 0 _ rfl; (with_reducible repeat (first | refine blk_drewN ?_ _ | refine blk_drew ?_ | refine blk_alloc ?_ _)); exact BK214.out) hb); have n3_ := Aside0.mk (below_step (by repeat (first | (with_reducible first | exact HB.out | apply below_alloc | apply pw_below_drewN | apply below_drew1 | refine below_set ?_ GE214.out) | exact HB.out)) hb); clear HO213; clear BK214; clear HB; have HO213 := n0_; have HO217 := n1_; have BK214 := n2_; have HB := n3_; clear n0_ n1_ n2_ n3_; (try clear hb); (try clear hb2); (try clear hk); (try clear hi); (try clear ho0)) | ((with_reducible refine gate_callee (f := 28) rfl ?_); refine goesL_ (some 35) rfl rfl Try.func28 (by kernel_rfl) rfl #[.int .i64 a4, .int .i64 1000] rfl (by (try simp only [List.map_toArray, List.map_cons, List.map_nil]); first | done | rfl | (simp only [List.length_drop, List.length_take]; rfl)) ?_; (with_reducible refine (racewaylaw5_pick.calls a4 1000 t218 _ A10.out).mono ?_); rintro e w' ⟨rfl, ⟨nd, rfl⟩⟩; refine ⟨_, rfl, ?_⟩; (try (rw [drewN_self w18]; generalize hq_ : World.drewN w18 _ = w18; have n0_ : Aside0 (Kd.R k28 28 w18 w.heap.size (fun _ => True) (.slice Ao17 t211.length co17) t211) := ⟨by rw [← hq_]; exact (by (with_reducible repeat (first | apply Kd.R_alloc | apply Kd.R_drewN | apply Kd.R_drew)); exact HO213.out)⟩; have n1_ : Aside0 (Kd.R (Kd.int .i64) 2 w18 w.heap.size (fun _ => True) v216 t215) := ⟨by rw [← hq_]; exact (by (with_reducible repeat (first | apply Kd.R_alloc | apply Kd.R_drewN | apply Kd.R_drew)); exact HO217.out)⟩; have n2_ : Aside0 (w18.heap[gb214]? = some (.cells #[.int .i64 t208, .int .i64 t209, .int .i64 t210, .slice Ao17 t211.length co17] 26 (0, 0))) := ⟨by rw [← hq_]; exact (by (with_reducible repeat (first | refine blk_drewN ?_ _ | refine blk_drew ?_ | refine blk_alloc ?_ _)); exact BK214.out)⟩; have n3_ : Aside0 (Below w.heap.size w w18) := ⟨by rw [← hq_]; exact (by repeat (first | (with_reducible first | exact HB.out | apply below_alloc | apply pw_below_drewN | apply below_drew1 | refine below_set ?_ GE214.out) | exact HB.out))⟩; clear HO213 HO217 BK214 HB hq_; have HO213 := n0_; have HO217 := n1_; have BK214 := n2_; have HB := n3_; clear n0_ n1_ n2_ n3_)); have hcz19_0 : w18.cell? ⟨gb214, 0, none⟩ = some (.int .i64 t208) := (blk_cell BK214.out 0).trans rfl; have hcz19_1 : w18.cell? ⟨gb214, 1, none⟩ = some (.int .i64 t209) := (blk_cell BK214.out 1).trans rfl; have hcz19_2 : w18.cell? ⟨gb214, 2, none⟩ = some (.int .i64 t210) := (blk_cell BK214.out 2).trans rfl; have hcz19_3 : w18.cell? ⟨gb214, 3, none⟩ = some (.slice Ao17 t211.length co17) := (blk_cell BK214.out 3).trans rfl; have hfz19_0 := blk_frozen BK214.out 0; have hfz19_1 := blk_frozen BK214.out 1; have hfz19_2 := blk_frozen BK214.out 2; have hfz19_3 := blk_frozen BK214.out 3) | ((with_reducible refine gate_dst (N := 15) rfl ?_); refine box_event ?hg (N := 15) ?hd (cs := #[.int .i64 0, .int .i64 0, .int .i64 0, .slice none 0 0]) (t := 26) ?hr ?_; (case hd => rfl); (case hg => rfl); (case hr => first | (go_simp; done) | (go_simp; rfl)); intro gb219 hg w20 hbox hb; have n0_ := Aside0.mk (Kd.R_below (by (with_reducible repeat (first | apply Kd.R_alloc | apply Kd.R_drewN | apply Kd.R_drew)); exact HO213.out) hb); have n1_ := Aside0.mk (Kd.R_below (by (with_reducible repeat (first | apply Kd.R_alloc | apply Kd.R_drewN | apply Kd.R_drew)); exact HO217.out) hb); have n2_ := Aside0.mk (blk_below (g := gb214) (o := .cells #[.int .i64 t208, .int .i64 t209, .int .i64 t210, .slice Ao17 t211.length co17] 26 (0, 0)) (by (with_reducible repeat (first | refine blk_drewN ?_ _ | refine blk_drew ?_ | refine blk_alloc ?_ _)); exact BK214.out) hb); have n3_ := Aside0.mk (below_step (by repeat (first | (with_reducible first | exact HB.out | apply below_alloc | apply pw_below_drewN | apply below_drew1 | refine below_set ?_ GE214.out) | exact HB.out)) hb); have n4_ := Aside0.mk (hbox); have n5_ := Aside0.mk ((by rw [hg]; exact (below_size (by repeat (first | (with_reducible first | exact HB.out | apply below_alloc | apply pw_below_drewN | apply below_drew1 | refine below_set ?_ GE214.out) | exact HB.out))) : w.heap.size ≤ gb219)); have n6_ := Aside0.mk ((by rw [hg]; exact (below_size (by repeat (first | (with_reducible first | exact HB.out | apply below_alloc | apply pw_below_drewN | apply below_drew1 | refine below_set ?_ GE214.out) | exact HB.out))) : w.heap.size ≤ gb219)); have n7_ := Aside0.mk ((by rw [hg]; exact Nat.ne_of_lt (blk_lt (g := gb214) (o := .cells #[.int .i64 t208, .int .i64 t209, .int .i64 t210, .slice Ao17 t211.length co17] 26 (0, 0)) (by (with_reducible repeat (first | refine blk_drewN ?_ _ | refine blk_drew ?_ | refine blk_alloc ?_ _)); exact BK214.out)) : gb214 ≠ gb219)); have n8_ := Aside0.mk ((by rw [hg]; exact Nat.ne_of_gt (blk_lt (g := gb214) (o := .cells #[.int .i64 t208, .int .i64 t209, .int .i64 t210, .slice Ao17 t211.length co17] 26 (0, 0)) (by (with_reducible repeat (first | refine blk_drewN ?_ _ | refine blk_drew ?_ | refine blk_alloc ?_ _)); exact BK214.out)) : gb219 ≠ gb214)); clear HO213; clear HO217; clear BK214; clear HB; have HO213 := n0_; have HO217 := n1_; have BK214 := n2_; have HB := n3_; have BK219 := n4_; have GW219 := n5_; have GE219 := n6_; have NB214_219 := n7_; have NB219_214 := n8_; clear n0_ n1_ n2_ n3_ n4_ n5_ n6_ n7_ n8_; clear hb hbox hg; have hnb21 := NB219_214.out; have hnc21 := NB214_219.out; have hcz22_0 : w20.cell? ⟨gb219, 0, none⟩ = some (.int .i64 0) := (blk_cell BK219.out 0).trans rfl; have hcz22_1 : w20.cell? ⟨gb219, 1, none⟩ = some (.int .i64 0) := (blk_cell BK219.out 1).trans rfl; have hcz22_2 : w20.cell? ⟨gb219, 2, none⟩ = some (.int .i64 0) := (blk_cell BK219.out 2).trans rfl; have hcz22_3 : w20.cell? ⟨gb219, 3, none⟩ = some (.slice none 0 0) := (blk_cell BK219.out 3).trans rfl; have hfz22_0 := blk_frozen BK219.out 0; have hfz22_1 := blk_frozen BK219.out 1; have hfz22_2 := blk_frozen BK219.out 2; have hfz22_3 := blk_frozen BK219.out 3; obtain ⟨Ao23, co23, eo23⟩ := Kd.R_slice HO217.out; subst eo23) | ((with_reducible refine gate_dst (N := 46) rfl ?_); refine Kd.R_make (Kd.int .i64) _ 2 rfl (N := 46) rfl 47 _ _ rfl (t215.length : Int) rfl rfl Try.underlying47 (.int .i64 0) 8 info2 rfl (by decide) (by omega) 0 (ok := fun _ => True) (okp := fun _ => True) rfl (fun _ hk => hk) trivial (of_decide_eq_true (by first | (with_reducible assumption) | assumption)) (Nat.le_trans (Nat.mul_le_mul_right _ (of_decide_eq_true (by first | (with_reducible assumption) | assumption) : (t215.length : Int).toNat ≤ 35184372088832)) (by omega)) (Below.refl _ _) (Nat.le_refl _) ?_; intro v221 w24 ho25 hb hg_ hnew_; clear hg_ hnew_; (first | rw [← Ny220.out] at ho25 | (simp only [Int.reduceToNat] at ho25; rw [← Ny220.out] at ho25)); have n0_ := Aside0.mk (Kd.R_below (by (with_reducible repeat (first | apply Kd.R_alloc | apply Kd.R_drewN | apply Kd.R_drew)); exact (Kd.R_mono (Kd.R_far (p := ⟨gb219, 3, none⟩) (Kd.R_far (p := ⟨gb219, 2, none⟩) (Kd.R_far (p := ⟨gb219, 1, none⟩) (Kd.R_far (p := ⟨gb219, 0, none⟩) (Kd.R_types HO213.out BK219.out (by decide)) (fun _ hk => hk.2) (.int .i64 t208)) (fun _ hk => hk.2) (.int .i64 t209)) (fun _ hk => hk.2) (.int .i64 t210)) (fun _ hk => hk.2) (.slice none 0 0)) (fun _ h_ => h_.1))) hb); have n1_ := Aside0.mk (Kd.R_elder' (by (with_reducible repeat (first | apply Kd.R_alloc | apply Kd.R_drewN | apply Kd.R_drew)); exact (Kd.R_mono (Kd.R_far (p := ⟨gb219, 3, none⟩) (Kd.R_far (p := ⟨gb219, 2, none⟩) (Kd.R_far (p := ⟨gb219, 1, none⟩) (Kd.R_far (p := ⟨gb219, 0, none⟩) (Kd.R_types HO217.out BK219.out (by decide)) (fun _ hk => hk.2) (.int .i64 t208)) (fun _ hk => hk.2) (.int .i64 t209)) (fun _ hk => hk.2) (.int .i64 t210)) (fun _ hk => hk.2) (.slice none 0 0)) (fun _ h_ => h_.1))) (Kd.R_base ho25) hb); have n2_ := Aside0.mk (Kd.R_lower (Kd.R_new' ho25 (Kd.R_lt (by (with_reducible repeat (first | apply Kd.R_alloc | apply Kd.R_drewN | apply Kd.R_drew)); exact (Kd.R_mono (Kd.R_far (p := ⟨gb219, 3, none⟩) (Kd.R_far (p := ⟨gb219, 2, none⟩) (Kd.R_far (p := ⟨gb219, 1, none⟩) (Kd.R_far (p := ⟨gb219, 0, none⟩) (Kd.R_types HO217.out BK219.out (by decide)) (fun _ hk => hk.2) (.int .i64 t208)) (fun _ hk => hk.2) (.int .i64 t209)) (fun _ hk => hk.2) (.int .i64 t210)) (fun _ hk => hk.2) (.slice none 0 0)) (fun _ h_ => h_.1))))) (below_size (by repeat (first | (with_reducible first | exact HB.out | apply below_alloc | apply pw_below_drewN | apply below_drew1 | refine below_set ?_ GE214.out | refine below_set ?_ GE219.out) | exact HB.out)))); have n3_ := Aside0.mk (blk_below (g := gb214) (o := .cells #[.int .i64 t208, .int .i64 t209, .int .i64 t210, .slice Ao17 t211.length co17] 26 (0, 0)) (by (with_reducible repeat (first | refine blk_drewN ?_ _ | refine blk_drew ?_ | refine blk_alloc ?_ _)); refine blk_far ?_ NB214_219.out _; (with_reducible repeat (first | refine blk_drewN ?_ _ | refine blk_drew ?_ | refine blk_alloc ?_ _)); refine blk_far ?_ NB214_219.out _; (with_reducible repeat (first | refine blk_drewN ?_ _ | refine blk_drew ?_ | refine blk_alloc ?_ _)); refine blk_far ?_ NB214_219.out _; (with_reducible repeat (first | refine blk_drewN ?_ _ | refine blk_drew ?_ | refine blk_alloc ?_ _)); refine blk_far ?_ NB214_219.out _; (with_reducible repeat (first | refine blk_drewN ?_ _ | refine blk_drew ?_ | refine blk_alloc ?_ _)); exact BK214.out) hb); have n4_ := Aside0.mk (blk_below (g := gb219) (o := .cells #[.int .i64 t208, .int .i64 t209, .int .i64 t210, .slice none 0 0] 26 (0, 0)) (by (with_reducible repeat (first | refine blk_drewN ?_ _ | refine blk_drew ?_ | refine blk_alloc ?_ _)); refine blk_put (cs := #[.int .i64 t208, .int .i64 t209, .int .i64 t210, .slice none 0 0]) ?_ 3 _ rfl; (with_reducible repeat (first | refine blk_drewN ?_ _ | refine blk_drew ?_ | refine blk_alloc ?_ _)); refine blk_put (cs := #[.int .i64 t208, .int .i64 t209, .int .i64 0, .slice none 0 0]) ?_ 2 _ rfl; (with_reducible repeat (first | refine blk_drewN ?_ _ | refine blk_drew ?_ | refine blk_alloc ?_ _)); refine blk_put (cs := #[.int .i64 t208, .int .i64 0, .int .i64 0, .slice none 0 0]) ?_ 1 _ rfl; (with_reducible repeat (first | refine blk_drewN ?_ _ | refine blk_drew ?_ | refine blk_alloc ?_ _)); refine blk_put (cs := #[.int .i64 0, .int .i64 0, .int .i64 0, .slice none 0 0]) ?_ 0 _ rfl; (with_reducible repeat (first | refine blk_drewN ?_ _ | refine blk_drew ?_ | refine blk_alloc ?_ _)); exact BK219.out) hb); have n5_ := Aside0.mk (below_step (by repeat (first | (with_reducible first | exact HB.out | apply below_alloc | apply pw_below_drewN | apply below_drew1 | refine below_set ?_ GE214.out | refine below_set ?_ GE219.out) | exact HB.out)) hb); clear HO213; clear HO217; clear BK214; clear BK219; clear HB; have HO213 := n0_; have HO217 := n1_; have HO222 := n2_; have BK214 := n3_; have BK219 := n4_; have HB := n5_; clear n0_ n1_ n2_ n3_ n4_ n5_; clear hb ho25))
        go_loopg [17] k (fun kq v17 w' => ∃ (x16_1 : List Int) (x17_1 : Int) (x220003_1 : List (S28)) (u220003 : Value), v17 = .int .i64 x17_1 ∧ Aside0 (racewaylaw5_FlowScales.l0 kq t215 (wrap64 (1 + t218)) x16_1 x17_1 t208 t209 t210 t211 t208 t209 t210 x220003_1 = some r) ∧ Aside0 (kq ≤ k) ∧ Aside0 (Kd.R (Kd.int .i64) 2 w' w.heap.size (fun k_ => some k_ ≠ (v221 : Value).ownBlock) (.slice Ao23 t215.length co23) t215) ∧ Aside0 (Kd.R (Kd.int .i64) 2 w' w.heap.size (fun k_ => some k_ ≠ ((.slice Ao23 t215.length co23) : Value).ownBlock) v221 x16_1) ∧ Aside0 (Kd.R k28 28 w' w.heap.size (fun k_ => some k_ ≠ (u220003 : Value).ownBlock) (.slice Ao17 t211.length co17) t211) ∧ Aside0 (Kd.R k28 28 w' w.heap.size (fun k_ => some k_ ≠ ((.slice Ao17 t211.length co17) : Value).ownBlock) u220003 x220003_1) ∧ Aside0 (w'.heap[gb214]? = some (.cells #[.int .i64 t208, .int .i64 t209, .int .i64 t210, (.slice Ao17 t211.length co17)] 26 (0, 0))) ∧ Aside0 (w'.heap[gb219]? = some (.cells #[.int .i64 t208, .int .i64 t209, .int .i64 t210, u220003] 26 (0, 0))) ∧ Aside0 (Below w.heap.size w w'))
        case atStart => exact ⟨(y220), (0), (([] : List (S28))), (.slice none 0 0), (by first | rfl | (simp; done) | (simp [*]; done)), H', ⟨Nat.le_refl _⟩, ⟨by (with_reducible repeat (first | apply Kd.R_alloc | apply Kd.R_drewN | apply Kd.R_drew)); exact Kd.R_mono HO217.out (fun _ hk => hk.2)⟩, ⟨by (with_reducible repeat (first | apply Kd.R_alloc | apply Kd.R_drewN | apply Kd.R_drew)); exact Kd.R_mono HO222.out (fun _ hk => hk.2)⟩, ⟨by (with_reducible repeat (first | apply Kd.R_alloc | apply Kd.R_drewN | apply Kd.R_drew)); exact Kd.R_mono HO213.out (fun _ hk => (by simp [Value.ownBlock]))⟩, ⟨by first | exact Kd.R_nil _ _ _ _ _ | exact Kd.N_nil _ _ _ _ _ | exact Kd.V_nil _ _ _ _ _ | exact Kd.Q_nil _ _ _ _ _ | exact Kd.S_nil _ _ _ _ _⟩, ⟨by (with_reducible repeat (first | refine blk_drewN ?_ _ | refine blk_drew ?_ | refine blk_alloc ?_ _)); exact BK214.out⟩, ⟨by (with_reducible repeat (first | refine blk_drewN ?_ _ | refine blk_drew ?_ | refine blk_alloc ?_ _)); exact BK219.out⟩, ⟨by repeat (first | (with_reducible first | exact HB.out | apply below_alloc | apply pw_below_drewN | apply below_drew1 | refine below_set ?_ GE214.out | refine below_set ?_ GE219.out) | exact HB.out)⟩⟩
        case round =>
          clear H'
          try clear c1
          try clear c2
          try clear p2
          try clear c3
          try clear p6
          try clear c7
          try clear c11
          try clear c11b0
          try clear c11b1
          try clear c12
          try clear c12b0
          try clear c12b1
          try clear c21
          try clear c24
          try clear c25
          try clear hcz16_0
          try clear hcz16_1
          try clear hcz16_2
          try clear hcz16_3
          try clear hcz19_0
          try clear hcz19_1
          try clear hcz19_2
          try clear hcz19_3
          try clear hcz22_0
          try clear hcz22_1
          try clear hcz22_2
          try clear hcz22_3
          try clear hfz16_0
          try clear hfz16_1
          try clear hfz16_2
          try clear hfz16_3
          try clear hfz19_0
          try clear hfz19_1
          try clear hfz19_2
          try clear hfz19_3
          try clear hfz22_0
          try clear hfz22_1
          try clear hfz22_2
          try clear hfz22_3
          obtain ⟨x16_1, x17_1, x220003_1, u220003, rfl, HA, HK1, HO_13, HO_16, HO_215003, HO_220003, BK214, BK219, HB⟩ := hrel
          cases gk with
          | zero => exact absurd HA.out (by simp [racewaylaw5_FlowScales.l0])
          | succ k1 =>
            have H := HA.out
            clear HA
            simp only [racewaylaw5_FlowScales.l0] at H
            by_cases c26 : x17_1 < (t215.length : Int)
            · rw [if_pos c26] at H
              have c26b0 : decide (x17_1 < (t215.length : Int)) = true := decide_eq_true c26
              clear c26
              by_cases c27 : 0 ≤ x17_1
              · rw [if_pos c27] at H
                have c27b0 : decide (0 ≤ x17_1) = true := decide_eq_true c27
                clear c27
                by_cases c28 : x17_1 < (t211.length : Int)
                · rw [if_pos c28] at H
                  have c28b0 : decide (x17_1 < (t211.length : Int)) = true := decide_eq_true c28
                  clear c28
                  by_cases c29 : x220003_1.length < 5864062014805
                  · rw [if_pos c29] at H
                    have LMc29 := Aside0.mk c29
                    clear c29
                    obtain ⟨y226, hy226⟩ : ∃ y_ : List (S28), y_ = (x220003_1 ++ [(⟨(rd_T28 t211 x17_1).f0, (rd_T28 t211 x17_1).f1, wrap64 ((wrap64 (1 + t218)) * ((rd_T28 t211 x17_1).f2))⟩ : S28)]) := ⟨_, rfl⟩
                    replace H : (if x17_1 < (x16_1.length : Int) then (racewaylaw5_FlowScales.l0 k1 t215 (wrap64 (1 + t218)) (x16_1.set (x17_1 : Int).toNat (wrap64 ((wrap64 (1 + t218)) * (rd t215 x17_1)))) (wrap64 (x17_1 + 1)) t208 t209 t210 t211 t208 t209 t210 y226) else (none)) = some r := by first | (rw [hy226]; with_reducible exact H) | (have H2_ := (Option.bind_some _ _).symm.trans H; rw [hy226]; with_reducible exact H2_) | (have H2_ := (Option.bind_some _ _).symm.trans H; with_reducible exact H2_) | with_reducible exact H | (rw [hy226]; exact H) | exact H
                    have Ny226 := Aside0.mk hy226
                    clear hy226
                    by_cases c30 : x17_1 < (x16_1.length : Int)
                    · rw [if_pos c30] at H
                      have c30b0 : decide (x17_1 < (x16_1.length : Int)) = true := decide_eq_true c30
                      clear c30
                      obtain ⟨y230, hy230⟩ : ∃ y_ : List Int, y_ = (x16_1.set (x17_1 : Int).toNat (wrap64 ((wrap64 (1 + t218)) * (rd t215 x17_1)))) := ⟨_, rfl⟩
                      replace H : (racewaylaw5_FlowScales.l0 k1 t215 (wrap64 (1 + t218)) y230 (wrap64 (x17_1 + 1)) t208 t209 t210 t211 t208 t209 t210 y226) = some r := by first | (rw [hy230]; with_reducible exact H) | (have H2_ := (Option.bind_some _ _).symm.trans H; rw [hy230]; with_reducible exact H2_) | (have H2_ := (Option.bind_some _ _).symm.trans H; with_reducible exact H2_) | with_reducible exact H | (rw [hy230]; exact H) | exact H
                      have Ny230 := Aside0.mk hy230
                      clear hy230
                      have H' := Aside0.mk H
                      clear H
                      try go_wp2
                      have n0_ := Aside0.mk (Kd.R_drew HO_13.out)
                      have n1_ := Aside0.mk (Kd.R_drew HO_16.out)
                      have n2_ := Aside0.mk (Kd.R_drew HO_215003.out)
                      have n3_ := Aside0.mk (Kd.R_drew HO_220003.out)
                      have n4_ := Aside0.mk (blk_drew BK214.out)
                      have n5_ := Aside0.mk (blk_drew BK219.out)
                      have n6_ := Aside0.mk (below_drew1 HB.out)
                      clear HO_13
                      clear HO_16
                      clear HO_215003
                      clear HO_220003
                      clear BK214
                      clear BK219
                      clear HB
                      have HO_13 := n0_
                      have HO_16 := n1_
                      have HO_215003 := n2_
                      have HO_220003 := n3_
                      have BK214 := n4_
                      have BK219 := n5_
                      have HB := n6_
                      clear n0_ n1_ n2_ n3_ n4_ n5_ n6_
                      have p223 : 0 ≤ (x17_1 : Int) := of_decide_eq_true (by first | (with_reducible assumption) | assumption)
                      have q223 : x17_1 < (t211.length : Int) := of_decide_eq_true (by first | (with_reducible assumption) | assumption)
                      obtain ⟨ad223, e223, hx223_0, hx223_1, hx223_2⟩ := at_T28 (Kd.R_reads' HO_215003.out).2.2 x17_1 p223 q223
                      cases e223
                      replace p223 := eq_true p223
                      replace q223 := eq_true q223
                      have p224 : 0 ≤ (x17_1 : Int) := of_decide_eq_true (by first | (with_reducible assumption) | assumption)
                      have q224 : x17_1 < (t211.length : Int) := of_decide_eq_true (by first | (with_reducible assumption) | assumption)
                      obtain ⟨ad224, e224, hx224_0, hx224_1, hx224_2⟩ := at_T28 (Kd.R_reads' HO_215003.out).2.2 x17_1 p224 q224
                      obtain rfl : ad223 = ad224 := (by injection e224)
                      replace p224 := eq_true p224
                      replace q224 := eq_true q224
                      have p225 : 0 ≤ (x17_1 : Int) := of_decide_eq_true (by first | (with_reducible assumption) | assumption)
                      have q225 : x17_1 < (t211.length : Int) := of_decide_eq_true (by first | (with_reducible assumption) | assumption)
                      obtain ⟨ad225, e225, hx225_0, hx225_1, hx225_2⟩ := at_T28 (Kd.R_reads' HO_215003.out).2.2 x17_1 p225 q225
                      obtain rfl : ad223 = ad225 := (by injection e225)
                      replace p225 := eq_true p225
                      replace q225 := eq_true q225
                      refine start_ (n := 27) (S := fun w' => w'.cell? ⟨gb219, 0, none⟩ = some (.int .i64 t208) ∧ w'.cell? ⟨gb219, 1, none⟩ = some (.int .i64 t209) ∧ w'.cell? ⟨gb219, 2, none⟩ = some (.int .i64 t210) ∧ w'.cell? ⟨gb219, 3, none⟩ = some (u220003) ∧ w'.cell? ⟨gb214, 0, none⟩ = some (.int .i64 t208) ∧ w'.cell? ⟨gb214, 1, none⟩ = some (.int .i64 t209) ∧ w'.cell? ⟨gb214, 2, none⟩ = some (.int .i64 t210) ∧ w'.cell? ⟨gb214, 3, none⟩ = some (.slice (some ad223) t211.length co17) ∧ w'.cell? (ad223.add ((x17_1).toNat * 3)) = some (.int .i64 ((rd_T28 t211 x17_1).f0)) ∧ w'.cell? ⟨(ad223.add ((x17_1).toNat * 3)).block, (ad223.add ((x17_1).toNat * 3)).off + 1, none⟩ = some (.int .i64 ((rd_T28 t211 x17_1).f1)) ∧ w'.cell? ⟨(ad223.add ((x17_1).toNat * 3)).block, (ad223.add ((x17_1).toNat * 3)).off + 2, none⟩ = some (.int .i64 ((rd_T28 t211 x17_1).f2)) ∧ w'.cell? (ad223.add ((x17_1).toNat * 3)) = some (.int .i64 ((rd_T28 t211 x17_1).f0)) ∧ w'.cell? ⟨(ad223.add ((x17_1).toNat * 3)).block, (ad223.add ((x17_1).toNat * 3)).off + 1, none⟩ = some (.int .i64 ((rd_T28 t211 x17_1).f1)) ∧ w'.cell? ⟨(ad223.add ((x17_1).toNat * 3)).block, (ad223.add ((x17_1).toNat * 3)).off + 2, none⟩ = some (.int .i64 ((rd_T28 t211 x17_1).f2)) ∧ w'.cell? (ad223.add ((x17_1).toNat * 3)) = some (.int .i64 ((rd_T28 t211 x17_1).f0)) ∧ w'.cell? ⟨(ad223.add ((x17_1).toNat * 3)).block, (ad223.add ((x17_1).toNat * 3)).off + 1, none⟩ = some (.int .i64 ((rd_T28 t211 x17_1).f1)) ∧ w'.cell? ⟨(ad223.add ((x17_1).toNat * 3)).block, (ad223.add ((x17_1).toNat * 3)).off + 2, none⟩ = some (.int .i64 ((rd_T28 t211 x17_1).f2))) (ds := [24, 26]) #[false, false, false, false, false, false, false, false, false, false, false, false, false, false, false, false, false, false, false, false, false, false, false, false, false, false, false] (by kernel_rfl) rfl rfl ⟨(blk_cell BK219.out 0).trans rfl, (blk_cell BK219.out 1).trans rfl, (blk_cell BK219.out 2).trans rfl, (blk_cell BK219.out 3).trans rfl, (blk_cell BK214.out 0).trans rfl, (blk_cell BK214.out 1).trans rfl, (blk_cell BK214.out 2).trans rfl, (blk_cell BK214.out 3).trans rfl, hx223_0, hx223_1, hx223_2, hx224_0, hx224_1, hx224_2, hx225_0, hx225_1, hx225_2⟩ (fun hHeld => ?_); refine with_tabW racewaylaw5_FlowScales.tab12 racewaylaw5_FlowScales.bits12 (fun HT_ HW_ => ?_)
                      generalize wr.drew = w32 at HO_13 HO_16 HO_215003 HO_220003 BK214 BK219 HB hx223_0 hx223_1 hx223_2 hx224_0 hx224_1 hx224_2 hx225_0 hx225_1 hx225_2 hHeld ⊢
                      refine pure_ (i := 0) (N := some 53) (v := ?_) (a' := ?_) #[true, false, false, false, false, false, false, false, false, false, false, false, false, false, false, false, false, false, false, false, false, false, false, false, false, false, false] rfl rfl (any_of HT_.out (by kernel_rfl)) (fun _ _ _ h => h) (Or.inl ⟨by rfl, ?_⟩) ?_ ?_
                      rotate_left
                      · intro w'
                        go_simp
                        with_reducible rfl
                      rotate_left
                      · simp only [Act.put, List.setIfInBounds_toArray, List.set_cons_zero, List.set_cons_succ, i64_w, i32_w]
                        rfl
                      refine pure_ (i := 2) (N := some 55) (v := ?_) (a' := ?_) #[true, false, true, false, false, false, false, false, false, false, false, false, false, false, false, false, false, false, false, false, false, false, false, false, false, false, false] rfl rfl (any_of HT_.out (by kernel_rfl)) (fun _ _ _ h => h) (Or.inl ⟨by rfl, ?_⟩) ?_ ?_
                      rotate_left
                      · intro w'
                        go_simp
                        with_reducible rfl
                      rotate_left
                      · simp only [Act.put, List.setIfInBounds_toArray, List.set_cons_zero, List.set_cons_succ, i64_w, i32_w]
                        rfl
                      refine pure_ (i := 4) (N := some 57) (v := ?_) (a' := ?_) #[true, false, true, false, true, false, false, false, false, false, false, false, false, false, false, false, false, false, false, false, false, false, false, false, false, false, false] rfl rfl (any_of HT_.out (by kernel_rfl)) (fun _ _ _ h => h) (Or.inl ⟨by rfl, ?_⟩) ?_ ?_
                      rotate_left
                      · intro w'
                        go_simp
                        with_reducible rfl
                      rotate_left
                      · simp only [Act.put, List.setIfInBounds_toArray, List.set_cons_zero, List.set_cons_succ, i64_w, i32_w]
                        rfl
                      refine pure_ (i := 8) (N := some 61) (v := ?_) (a' := ?_) #[true, false, true, false, true, false, false, false, true, false, false, false, false, false, false, false, false, false, false, false, false, false, false, false, false, false, false] rfl rfl (any_of HT_.out (by kernel_rfl)) (fun _ _ _ h => h) (Or.inl ⟨by rfl, ?_⟩) ?_ ?_
                      rotate_left
                      · intro w'
                        go_simp
                        with_reducible rfl
                      rotate_left
                      · simp only [Act.put, List.setIfInBounds_toArray, List.set_cons_zero, List.set_cons_succ, i64_w, i32_w]
                        rfl
                      refine pure_ (i := 10) (N := some 63) (v := ?_) (a' := ?_) #[true, false, true, false, true, false, false, false, true, false, true, false, false, false, false, false, false, false, false, false, false, false, false, false, false, false, false] rfl rfl (any_of HT_.out (by kernel_rfl)) (fun _ _ _ h => h) (Or.inl ⟨by rfl, ?_⟩) ?_ ?_
                      rotate_left
                      · intro w'
                        go_simp
                        with_reducible rfl
                      rotate_left
                      · simp only [Act.put, List.setIfInBounds_toArray, List.set_cons_zero, List.set_cons_succ, i64_w, i32_w]
                        rfl
                      refine pure_ (i := 14) (N := some 67) (v := ?_) (a' := ?_) #[true, false, true, false, true, false, false, false, true, false, true, false, false, false, true, false, false, false, false, false, false, false, false, false, false, false, false] rfl rfl (any_of HT_.out (by kernel_rfl)) (fun _ _ _ h => h) (Or.inl ⟨by rfl, ?_⟩) ?_ ?_
                      rotate_left
                      · intro w'
                        go_simp
                        with_reducible rfl
                      rotate_left
                      · simp only [Act.put, List.setIfInBounds_toArray, List.set_cons_zero, List.set_cons_succ, i64_w, i32_w]
                        rfl
                      refine pure_ (i := 15) (N := some 68) (v := ?_) (a' := ?_) #[true, false, true, false, true, false, false, false, true, false, true, false, false, false, true, true, false, false, false, false, false, false, false, false, false, false, false] rfl rfl (any_of HT_.out (by kernel_rfl)) (fun _ _ _ h => h) (Or.inl ⟨by rfl, ?_⟩) ?_ ?_
                      rotate_left
                      · intro w'
                        go_simp
                        with_reducible rfl
                      rotate_left
                      · simp only [Act.put, List.setIfInBounds_toArray, List.set_cons_zero, List.set_cons_succ, i64_w, i32_w]
                        rfl
                      refine pure_ (i := 17) (N := some 70) (v := ?_) (a' := ?_) #[true, false, true, false, true, false, false, false, true, false, true, false, false, false, true, true, false, true, false, false, false, false, false, false, false, false, false] rfl rfl (any_of HT_.out (by kernel_rfl)) (fun _ _ _ h => h) (Or.inl ⟨by rfl, ?_⟩) ?_ ?_
                      rotate_left
                      · intro w'
                        go_simp
                        with_reducible rfl
                      rotate_left
                      · simp only [Act.put, List.setIfInBounds_toArray, List.set_cons_zero, List.set_cons_succ, i64_w, i32_w]
                        rfl
                      refine take_ (i := 1) (N := some 54) (v := ?_) (a' := ?_) #[true, true, true, false, true, false, false, false, true, false, true, false, false, false, true, true, false, true, false, false, false, false, false, false, false, false, false] rfl rfl (take_ofW HT_.out HW_.out (by kernel_rfl)) (fun _ _ _ h => h) (Or.inl ⟨by rfl, ?_⟩) hHeld ?_ ?_
                      rotate_left
                      · rintro w' ⟨s0, s1, s2, s3, s4, s5, s6, s7, s8, s9, s10, s11, s12, s13, s14, s15, s16⟩
                        go_simp
                        with_reducible rfl
                      rotate_left
                      · simp only [Act.put, List.setIfInBounds_toArray, List.set_cons_zero, List.set_cons_succ, i64_w, i32_w]
                        rfl
                      refine take_ (i := 3) (N := some 56) (v := ?_) (a' := ?_) #[true, true, true, true, true, false, false, false, true, false, true, false, false, false, true, true, false, true, false, false, false, false, false, false, false, false, false] rfl rfl (take_ofW HT_.out HW_.out (by kernel_rfl)) (fun _ _ _ h => h) (Or.inl ⟨by rfl, ?_⟩) hHeld ?_ ?_
                      rotate_left
                      · rintro w' ⟨s0, s1, s2, s3, s4, s5, s6, s7, s8, s9, s10, s11, s12, s13, s14, s15, s16⟩
                        go_simp
                        with_reducible rfl
                      rotate_left
                      · simp only [Act.put, List.setIfInBounds_toArray, List.set_cons_zero, List.set_cons_succ, i64_w, i32_w]
                        rfl
                      refine pure_ (i := 5) (N := some 58) (v := ?_) (a' := ?_) #[true, true, true, true, true, true, false, false, true, false, true, false, false, false, true, true, false, true, false, false, false, false, false, false, false, false, false] rfl rfl (any_of HT_.out (by kernel_rfl)) (fun _ _ _ h => h) (Or.inl ⟨by rfl, ?_⟩) ?_ ?_
                      rotate_left
                      · intro w'
                        go_simp
                        with_reducible rfl
                      rotate_left
                      · simp only [Act.put, List.setIfInBounds_toArray, List.set_cons_zero, List.set_cons_succ, i64_w, i32_w]
                        rfl
                      refine pure_ (i := 6) (N := some 59) (v := ?_) (a' := ?_) #[true, true, true, true, true, true, true, false, true, false, true, false, false, false, true, true, false, true, false, false, false, false, false, false, false, false, false] rfl rfl (any_of HT_.out (by kernel_rfl)) (fun _ _ _ h => h) (Or.inl ⟨by rfl, ?_⟩) ?_ ?_
                      rotate_left
                      · intro w'
                        go_simp
                        with_reducible rfl
                      rotate_left
                      · simp only [Act.put, List.setIfInBounds_toArray, List.set_cons_zero, List.set_cons_succ, i64_w, i32_w]
                        rfl
                      refine take_ (i := 7) (N := some 60) (v := ?_) (a' := ?_) #[true, true, true, true, true, true, true, true, true, false, true, false, false, false, true, true, false, true, false, false, false, false, false, false, false, false, false] rfl rfl (take_ofW HT_.out HW_.out (by kernel_rfl)) (fun _ _ _ h => h) (Or.inl ⟨by rfl, ?_⟩) hHeld ?_ ?_
                      rotate_left
                      · rintro w' ⟨s0, s1, s2, s3, s4, s5, s6, s7, s8, s9, s10, s11, s12, s13, s14, s15, s16⟩
                        go_simp
                        with_reducible rfl
                      rotate_left
                      · simp only [Act.put, List.setIfInBounds_toArray, List.set_cons_zero, List.set_cons_succ, i64_w, i32_w]
                        rfl
                      refine take_ (i := 9) (N := some 62) (v := ?_) (a' := ?_) #[true, true, true, true, true, true, true, true, true, true, true, false, false, false, true, true, false, true, false, false, false, false, false, false, false, false, false] rfl rfl (take_ofW HT_.out HW_.out (by kernel_rfl)) (fun _ _ _ h => h) (Or.inl ⟨by rfl, ?_⟩) hHeld ?_ ?_
                      rotate_left
                      · rintro w' ⟨s0, s1, s2, s3, s4, s5, s6, s7, s8, s9, s10, s11, s12, s13, s14, s15, s16⟩
                        go_simp
                        with_reducible rfl
                      rotate_left
                      · simp only [Act.put, List.setIfInBounds_toArray, List.set_cons_zero, List.set_cons_succ, i64_w, i32_w]
                        rfl
                      refine pure_ (i := 11) (N := some 64) (v := ?_) (a' := ?_) #[true, true, true, true, true, true, true, true, true, true, true, true, false, false, true, true, false, true, false, false, false, false, false, false, false, false, false] rfl rfl (any_of HT_.out (by kernel_rfl)) (fun _ _ _ h => h) (Or.inl ⟨by rfl, ?_⟩) ?_ ?_
                      rotate_left
                      · intro w'
                        go_simp
                        with_reducible rfl
                      rotate_left
                      · simp only [Act.put, List.setIfInBounds_toArray, List.set_cons_zero, List.set_cons_succ, i64_w, i32_w]
                        rfl
                      refine pure_ (i := 12) (N := some 65) (v := ?_) (a' := ?_) #[true, true, true, true, true, true, true, true, true, true, true, true, true, false, true, true, false, true, false, false, false, false, false, false, false, false, false] rfl rfl (any_of HT_.out (by kernel_rfl)) (fun _ _ _ h => h) (Or.inl ⟨by rfl, ?_⟩) ?_ ?_
                      rotate_left
                      · intro w'
                        go_simp
                        with_reducible rfl
                      rotate_left
                      · simp only [Act.put, List.setIfInBounds_toArray, List.set_cons_zero, List.set_cons_succ, i64_w, i32_w]
                        rfl
                      refine take_ (i := 13) (N := some 66) (v := ?_) (a' := ?_) #[true, true, true, true, true, true, true, true, true, true, true, true, true, true, true, true, false, true, false, false, false, false, false, false, false, false, false] rfl rfl (take_ofW HT_.out HW_.out (by kernel_rfl)) (fun _ _ _ h => h) (Or.inl ⟨by rfl, ?_⟩) hHeld ?_ ?_
                      rotate_left
                      · rintro w' ⟨s0, s1, s2, s3, s4, s5, s6, s7, s8, s9, s10, s11, s12, s13, s14, s15, s16⟩
                        go_simp
                        with_reducible rfl
                      rotate_left
                      · simp only [Act.put, List.setIfInBounds_toArray, List.set_cons_zero, List.set_cons_succ, i64_w, i32_w]
                        rfl
                      refine take_ (i := 16) (N := some 69) (v := ?_) (a' := ?_) #[true, true, true, true, true, true, true, true, true, true, true, true, true, true, true, true, true, true, false, false, false, false, false, false, false, false, false] rfl rfl (take_ofW HT_.out HW_.out (by kernel_rfl)) (fun _ _ _ h => h) (Or.inl ⟨by rfl, ?_⟩) hHeld ?_ ?_
                      rotate_left
                      · rintro w' ⟨s0, s1, s2, s3, s4, s5, s6, s7, s8, s9, s10, s11, s12, s13, s14, s15, s16⟩
                        go_simp
                        with_reducible rfl
                      rotate_left
                      · simp only [Act.put, List.setIfInBounds_toArray, List.set_cons_zero, List.set_cons_succ, i64_w, i32_w]
                        rfl
                      refine pure_ (i := 18) (N := some 71) (v := ?_) (a' := ?_) #[true, true, true, true, true, true, true, true, true, true, true, true, true, true, true, true, true, true, true, false, false, false, false, false, false, false, false] rfl rfl (any_of HT_.out (by kernel_rfl)) (fun _ _ _ h => h) (Or.inl ⟨by rfl, ?_⟩) ?_ ?_
                      rotate_left
                      · intro w'
                        go_simp
                        with_reducible rfl
                      rotate_left
                      · simp only [Act.put, List.setIfInBounds_toArray, List.set_cons_zero, List.set_cons_succ, i64_w, i32_w]
                        rfl
                      refine pure_ (i := 19) (N := some 72) (v := ?_) (a' := ?_) #[true, true, true, true, true, true, true, true, true, true, true, true, true, true, true, true, true, true, true, true, false, false, false, false, false, false, false] rfl rfl (any_of HT_.out (by kernel_rfl)) (fun _ _ _ h => h) (Or.inl ⟨by rfl, ?_⟩) ?_ ?_
                      rotate_left
                      · intro w'
                        go_simp
                        with_reducible rfl
                      rotate_left
                      · simp only [Act.put, List.setIfInBounds_toArray, List.set_cons_zero, List.set_cons_succ, i64_w, i32_w]
                        rfl
                      refine take_ (i := 20) (N := some 73) (v := ?_) (a' := ?_) #[true, true, true, true, true, true, true, true, true, true, true, true, true, true, true, true, true, true, true, true, true, false, false, false, false, false, false] rfl rfl (take_ofW HT_.out HW_.out (by kernel_rfl)) (fun _ _ _ h => h) (Or.inl ⟨by rfl, ?_⟩) hHeld ?_ ?_
                      rotate_left
                      · rintro w' ⟨s0, s1, s2, s3, s4, s5, s6, s7, s8, s9, s10, s11, s12, s13, s14, s15, s16⟩
                        go_simp
                        with_reducible rfl
                      rotate_left
                      · simp only [Act.put, List.setIfInBounds_toArray, List.set_cons_zero, List.set_cons_succ, i64_w, i32_w]
                        rfl
                      refine pure_ (i := 21) (N := some 74) (v := ?_) (a' := ?_) #[true, true, true, true, true, true, true, true, true, true, true, true, true, true, true, true, true, true, true, true, true, true, false, false, false, false, false] rfl rfl (any_of HT_.out (by kernel_rfl)) (fun _ _ _ h => h) (Or.inl ⟨by rfl, ?_⟩) ?_ ?_
                      rotate_left
                      · intro w'
                        go_simp
                        with_reducible rfl
                      rotate_left
                      · simp only [Act.put, List.setIfInBounds_toArray, List.set_cons_zero, List.set_cons_succ, i64_w, i32_w]
                        rfl
                      refine pure_ (i := 22) (N := some 75) (v := ?_) (a' := ?_) #[true, true, true, true, true, true, true, true, true, true, true, true, true, true, true, true, true, true, true, true, true, true, true, false, false, false, false] rfl rfl (any_of HT_.out (by kernel_rfl)) (fun _ _ _ h => h) (Or.inl ⟨by rfl, ?_⟩) ?_ ?_
                      rotate_left
                      · intro w'
                        go_simp
                        with_reducible rfl
                      rotate_left
                      · simp only [Act.put, List.setIfInBounds_toArray, List.set_cons_zero, List.set_cons_succ, i64_w, i32_w]
                        rfl
                      refine one_ (i := 23) (N := some 76) #[true, true, true, true, true, true, true, true, true, true, true, true, true, true, true, true, true, true, true, true, true, true, true, true, false, false, false] rfl rfl (one_of HT_.out (by kernel_rfl)) (by decide) (fun K hK => ?_)
                      refine value_ (w1 := ?_) (v := ?_) (by rfl) rfl ?_ ?_
                      rotate_left 2
                      · go_simp
                        constructor
                        · rfl
                        · rfl
                      refine hK.out _ _ ⟨(blk_cell (blk_alloc BK219.out _) 0).trans rfl, (blk_cell (blk_alloc BK219.out _) 1).trans rfl, (blk_cell (blk_alloc BK219.out _) 2).trans rfl, (blk_cell (blk_alloc BK219.out _) 3).trans rfl, (blk_cell (blk_alloc BK214.out _) 0).trans rfl, (blk_cell (blk_alloc BK214.out _) 1).trans rfl, (blk_cell (blk_alloc BK214.out _) 2).trans rfl, (blk_cell (blk_alloc BK214.out _) 3).trans rfl, (World.cell?_alloc_lt _ _ _ (World.block_lt_of_cell? _ _ (hHeld.2.2.2.2.2.2.2.2.1))).trans (hHeld.2.2.2.2.2.2.2.2.1), (World.cell?_alloc_lt _ _ _ (World.block_lt_of_cell? _ _ (hHeld.2.2.2.2.2.2.2.2.2.1))).trans (hHeld.2.2.2.2.2.2.2.2.2.1), (World.cell?_alloc_lt _ _ _ (World.block_lt_of_cell? _ _ (hHeld.2.2.2.2.2.2.2.2.2.2.1))).trans (hHeld.2.2.2.2.2.2.2.2.2.2.1), (World.cell?_alloc_lt _ _ _ (World.block_lt_of_cell? _ _ (hHeld.2.2.2.2.2.2.2.2.2.2.2.1))).trans (hHeld.2.2.2.2.2.2.2.2.2.2.2.1), (World.cell?_alloc_lt _ _ _ (World.block_lt_of_cell? _ _ (hHeld.2.2.2.2.2.2.2.2.2.2.2.2.1))).trans (hHeld.2.2.2.2.2.2.2.2.2.2.2.2.1), (World.cell?_alloc_lt _ _ _ (World.block_lt_of_cell? _ _ (hHeld.2.2.2.2.2.2.2.2.2.2.2.2.2.1))).trans (hHeld.2.2.2.2.2.2.2.2.2.2.2.2.2.1), (World.cell?_alloc_lt _ _ _ (World.block_lt_of_cell? _ _ (hHeld.2.2.2.2.2.2.2.2.2.2.2.2.2.2.1))).trans (hHeld.2.2.2.2.2.2.2.2.2.2.2.2.2.2.1), (World.cell?_alloc_lt _ _ _ (World.block_lt_of_cell? _ _ (hHeld.2.2.2.2.2.2.2.2.2.2.2.2.2.2.2.1))).trans (hHeld.2.2.2.2.2.2.2.2.2.2.2.2.2.2.2.1), (World.cell?_alloc_lt _ _ _ (World.block_lt_of_cell? _ _ (hHeld.2.2.2.2.2.2.2.2.2.2.2.2.2.2.2.2))).trans (hHeld.2.2.2.2.2.2.2.2.2.2.2.2.2.2.2.2)⟩ (fun hHeld => ?_)
                      clear hK K
                      refine norm_ (a' := ?_) ?_ ?_
                      rotate_left
                      · show Act.put _ (some 76) _ = _
                        simp only [Act.put, List.setIfInBounds_toArray, List.set_cons_zero, List.set_cons_succ, i64_w, i32_w]
                        rfl
                      refine last_ (i := 24) (N := some 77) #[true, true, true, true, true, true, true, true, true, true, true, true, true, true, true, true, true, true, true, true, true, true, true, true, true, false, false] rfl rfl (one_of HT_.out (by kernel_rfl)) (by decide) (fun K hK => ?_)
                      refine Kd.R_append_step k28 (w0 := w) w.heap.size (by rfl) (.tmp 54) (.tmp 76) 24 28 (.agg #[(.int .i64 0), (.int .i64 0), (.int .i64 0)]) 24 rfl Try.underlying24 info28 rfl (by decide) (by omega) u220003 x220003_1 (⟨(rd_T28 t211 x17_1).f0, (rd_T28 t211 x17_1).f1, wrap64 ((wrap64 (1 + t218)) * ((rd_T28 t211 x17_1).f2))⟩ : S28) [.int .i64 ((rd_T28 t211 x17_1).f0), .int .i64 ((rd_T28 t211 x17_1).f1), .int .i64 (wrap64 ((wrap64 (1 + t218)) * ((rd_T28 t211 x17_1).f2)))] (fun k_ => some k_ ≠ (.slice (some ad223) t211.length co17 : Value).ownBlock) (fun _ => False) rfl rfl ?aP (fun _ hk => hk.elim) ?aF ?aO ?aB ?aS ?aL ?_
                      (case aP => exact k28_mkM _ _ _ (⟨(rd_T28 t211 x17_1).f0, (rd_T28 t211 x17_1).f1, wrap64 ((wrap64 (1 + t218)) * ((rd_T28 t211 x17_1).f2))⟩ : S28))
                      (case aB => exact (by repeat (first | (with_reducible first | exact HB.out | apply below_alloc | apply pw_below_drewN | apply below_drew1 | refine below_set ?_ GE214.out | refine below_set ?_ GE219.out) | exact HB.out)))
                      (case aF => exact (fun k_ hk => Kd.fresh' (Kd.R_lt (by (with_reducible repeat (first | apply Kd.R_alloc | apply Kd.R_drewN | apply Kd.R_drew)); exact HO_215003.out)) k_ hk))
                      (case aO => exact (by (with_reducible repeat (first | apply Kd.R_alloc | apply Kd.R_drewN | apply Kd.R_drew)); exact HO_220003.out))
                      (case aS => exact (below_size (by repeat (first | (with_reducible first | exact HB.out | apply below_alloc | apply pw_below_drewN | apply below_drew1 | refine below_set ?_ GE214.out | refine below_set ?_ GE219.out) | exact HB.out))))
                      (case aL => have := LMc29.out; omega)
                      intro v227 w33 ho hb hg hat
                      rw [← Ny226.out] at ho
                      have n0_ := Aside0.mk (Kd.R_over' (by (with_reducible repeat (first | apply Kd.R_alloc | apply Kd.R_drewN | apply Kd.R_drew)); exact HO_13.out) (Kd.R_typed (by (with_reducible repeat (first | apply Kd.R_alloc | apply Kd.R_drewN | apply Kd.R_drew)); exact HO_220003.out)) (by decide) hg)
                      have n1_ := Aside0.mk (Kd.R_over' (by (with_reducible repeat (first | apply Kd.R_alloc | apply Kd.R_drewN | apply Kd.R_drew)); exact HO_16.out) (Kd.R_typed (by (with_reducible repeat (first | apply Kd.R_alloc | apply Kd.R_drewN | apply Kd.R_drew)); exact HO_220003.out)) (by decide) hg)
                      have n2_ := Aside0.mk (Kd.R_after (ok := (fun _ => True)) (by (with_reducible repeat (first | apply Kd.R_alloc | apply Kd.R_drewN | apply Kd.R_drew)); exact Kd.R_mono HO_215003.out (fun _ hk => ⟨trivial, hk⟩)) hg hat)
                      have n3_ := Aside0.mk (blk_grown (g := gb214) (o := .cells #[.int .i64 t208, .int .i64 t209, .int .i64 t210, .slice (some ad223) t211.length co17] 26 (0, 0)) (by (with_reducible repeat (first | refine blk_drewN ?_ _ | refine blk_drew ?_ | refine blk_alloc ?_ _)); exact BK214.out) hg (Kd.R_ne HO_220003.out BK214.out (by decide)))
                      have n4_ := Aside0.mk (blk_grown (g := gb219) (o := .cells #[.int .i64 t208, .int .i64 t209, .int .i64 t210, u220003] 26 (0, 0)) (by (with_reducible repeat (first | refine blk_drewN ?_ _ | refine blk_drew ?_ | refine blk_alloc ?_ _)); exact BK219.out) hg (Kd.R_ne HO_220003.out BK219.out (by decide)))
                      have n5_ := Aside0.mk (hb)
                      have n6_ := Aside0.mk (ho)
                      clear HO_13
                      clear HO_16
                      clear HO_215003
                      clear BK214
                      clear BK219
                      clear HB
                      clear HO_220003
                      have HO_13 := n0_
                      have HO_16 := n1_
                      have HO_215003 := n2_
                      have BK214 := n3_
                      have BK219 := n4_
                      have HB := n5_
                      have HO228 := n6_
                      clear n0_ n1_ n2_ n3_ n4_ n5_ n6_
                      clear ho hb hg hat
                      obtain ⟨Ao34, co34, eo34⟩ := Kd.R_slice HO228.out
                      (first | subst eo34 | (injection eo34 with f1_ f2_ f3_; have f4_ := f1_.symm; have f5_ := f3_.symm; clear f1_ f2_ f3_; subst f4_; subst f5_))
                      refine hK.out _ _ ?_
                      clear hK K
                      refine norm_ (a' := ?_) ?_ ?_
                      rotate_left
                      · show Act.put _ (some 77) _ = _
                        simp only [Act.put, List.setIfInBounds_toArray, List.set_cons_zero, List.set_cons_succ, i64_w, i32_w]
                        rfl
                      refine pure_ (i := 25) (N := some 78) (v := ?_) (a' := ?_) #[true, true, true, true, true, true, true, true, true, true, true, true, true, true, true, true, true, true, true, true, true, true, true, true, true, true, false] rfl rfl (any_of HT_.out (by kernel_rfl)) (fun _ _ _ h => h) (Or.inl ⟨by rfl, ?_⟩) ?_ ?_
                      rotate_left
                      · intro w'
                        go_simp
                        with_reducible rfl
                      rotate_left
                      · simp only [Act.put, List.setIfInBounds_toArray, List.set_cons_zero, List.set_cons_succ, i64_w, i32_w]
                        rfl
                      refine last_ (i := 26) (N := none) #[true, true, true, true, true, true, true, true, true, true, true, true, true, true, true, true, true, true, true, true, true, true, true, true, true, true, true] rfl rfl (one_of HT_.out (by kernel_rfl)) (by decide) (fun K hK => ?_)
                      have hs35 : w33.cell? ⟨gb219, 3, none⟩ = some (u220003) := (blk_cell BK219.out 3).trans rfl
                      have hfs35 := blk_frozen BK219.out 3
                      have hns35_0 := NB214_219.out
                      have hms35_0 := NB219_214.out
                      refine skip_ (w1 := ?_) (by rfl) rfl ?_ ?_
                      rotate_left
                      · go_simp
                        rfl
                      refine hK.out _ _ ?_
                      clear hK K
                      refine done_ (done_of HT_.out (by kernel_rfl)) ?_
                      have n0_ : Aside0 (Kd.R (Kd.int .i64) 2 (w33.setCell ⟨gb219, 3, none⟩ (.slice Ao34 y226.length co34)) w.heap.size (fun k_ => some k_ ≠ (v221 : Value).ownBlock) (.slice Ao23 t215.length co23) t215) := ⟨by (with_reducible repeat (first | apply Kd.R_alloc | apply Kd.R_drewN | apply Kd.R_drew)); exact Kd.R_mono (Kd.R_far (p := ⟨gb219, 3, none⟩) (Kd.R_types HO_13.out BK219.out (by decide)) (fun _ hk => hk.2) (.slice Ao34 y226.length co34)) (fun _ hk => hk.1)⟩
                      have n1_ : Aside0 (Kd.R (Kd.int .i64) 2 (w33.setCell ⟨gb219, 3, none⟩ (.slice Ao34 y226.length co34)) w.heap.size (fun k_ => some k_ ≠ (.slice Ao23 t215.length co23 : Value).ownBlock) v221 x16_1) := ⟨by (with_reducible repeat (first | apply Kd.R_alloc | apply Kd.R_drewN | apply Kd.R_drew)); exact Kd.R_mono (Kd.R_far (p := ⟨gb219, 3, none⟩) (Kd.R_types HO_16.out BK219.out (by decide)) (fun _ hk => hk.2) (.slice Ao34 y226.length co34)) (fun _ hk => hk.1)⟩
                      have n2_ : Aside0 (Kd.R k28 28 (w33.setCell ⟨gb219, 3, none⟩ (.slice Ao34 y226.length co34)) w.heap.size (fun k_ => some k_ ≠ (.slice Ao34 y226.length co34 : Value).ownBlock) (.slice (some ad223) t211.length co17) t211) := ⟨by (with_reducible repeat (first | apply Kd.R_alloc | apply Kd.R_drewN | apply Kd.R_drew)); exact Kd.R_mono (Kd.R_far (p := ⟨gb219, 3, none⟩) (Kd.R_types HO_215003.out BK219.out (by decide)) (fun _ hk => hk.2) (.slice Ao34 y226.length co34)) (fun _ hk => hk.1.2)⟩
                      have n3_ : Aside0 (Kd.R k28 28 (w33.setCell ⟨gb219, 3, none⟩ (.slice Ao34 y226.length co34)) w.heap.size (fun k_ => some k_ ≠ (.slice (some ad223) t211.length co17 : Value).ownBlock) (.slice Ao34 y226.length co34) y226) := ⟨by (with_reducible repeat (first | apply Kd.R_alloc | apply Kd.R_drewN | apply Kd.R_drew)); exact Kd.R_mono (Kd.R_far (p := ⟨gb219, 3, none⟩) (Kd.R_types HO228.out BK219.out (by decide)) (fun _ hk => hk.2) (.slice Ao34 y226.length co34)) (fun _ hk => hk.1)⟩
                      have n4_ : Aside0 ((w33.setCell ⟨gb219, 3, none⟩ (.slice Ao34 y226.length co34)).heap[gb214]? = some (.cells #[.int .i64 t208, .int .i64 t209, .int .i64 t210, .slice (some ad223) t211.length co17] 26 (0, 0))) := ⟨by (with_reducible repeat (first | refine blk_drewN ?_ _ | refine blk_drew ?_ | refine blk_alloc ?_ _)); refine blk_far ?_ NB214_219.out _; (with_reducible repeat (first | refine blk_drewN ?_ _ | refine blk_drew ?_ | refine blk_alloc ?_ _)); exact BK214.out⟩
                      have n5_ : Aside0 ((w33.setCell ⟨gb219, 3, none⟩ (.slice Ao34 y226.length co34)).heap[gb219]? = some (.cells #[.int .i64 t208, .int .i64 t209, .int .i64 t210, .slice Ao34 y226.length co34] 26 (0, 0))) := ⟨by (with_reducible repeat (first | refine blk_drewN ?_ _ | refine blk_drew ?_ | refine blk_alloc ?_ _)); refine blk_put (cs := #[.int .i64 t208, .int .i64 t209, .int .i64 t210, u220003]) ?_ 3 _ rfl; (with_reducible repeat (first | refine blk_drewN ?_ _ | refine blk_drew ?_ | refine blk_alloc ?_ _)); exact BK219.out⟩
                      have n6_ : Aside0 (Below w.heap.size w (w33.setCell ⟨gb219, 3, none⟩ (.slice Ao34 y226.length co34))) := ⟨by repeat (first | (with_reducible first | exact HB.out | apply below_alloc | apply pw_below_drewN | apply below_drew1 | refine below_set ?_ GE214.out | refine below_set ?_ GE219.out) | exact HB.out)⟩
                      (try clear HO_13)
                      (try clear HO_16)
                      (try clear HO_215003)
                      (try clear HO228)
                      (try clear BK214)
                      (try clear BK219)
                      (try clear HB)
                      (try simp only [Go.Proofs.YtjbeofcgnnlllaaW.MyOpen.setCell_drewN_out])
                      generalize (w33.setCell ⟨gb219, 3, none⟩ (.slice Ao34 y226.length co34)) = w36 at n0_ n1_ n2_ n3_ n4_ n5_ n6_ ⊢
                      have HO_13 := n0_
                      have HO_16 := n1_
                      have HO_215003 := n2_
                      have HO228 := n3_
                      have BK214 := n4_
                      have BK219 := n5_
                      have HB := n6_
                      clear n0_ n1_ n2_ n3_ n4_ n5_ n6_
                      have p229 : 0 ≤ (x17_1 : Int) := of_decide_eq_true (by first | (with_reducible assumption) | assumption)
                      have q229 : x17_1 < (t215.length : Int) := of_decide_eq_true (by first | (with_reducible assumption) | assumption)
                      obtain ⟨ad229, e229, hx229_0⟩ := Kd.at_int (Kd.R_reads' HO_13.out).2.2 x17_1 p229 q229
                      cases e229
                      replace p229 := eq_true p229
                      replace q229 := eq_true q229
                      have p31 : 0 ≤ (x17_1 : Int) := of_decide_eq_true (by first | (with_reducible assumption) | assumption)
                      have q31 : (x17_1 : Int) < ((x16_1.length : Int) : Int) := of_decide_eq_true (by first | (with_reducible assumption) | assumption)
                      obtain ⟨go31, co31, eo31, gb31, gl31, cl31, HG31⟩ := Kd.R_form HO_16.out (by omega)
                      (first | cases eo31 | (injection eo31 with ea_ en_ ec_; (first | subst ea_ | (injection ea_ with ea_; subst ea_)); subst ec_; clear en_))
                      have GB31 := Aside0.mk gb31
                      have GG31 := Aside0.mk HG31
                      clear gb31 gl31 HG31
                      obtain ⟨hx31_0, hf31_0⟩ := Kd.R_celln 0 HO_16.out (x17_1 : Int) p31 q31
                      replace p31 := eq_true p31
                      replace q31 := eq_true q31
                      obtain ⟨hy37_, hz37_⟩ := Kd.R_celln 0 HO_16.out (x17_1 : Int) (of_decide_eq_true (by first | (with_reducible assumption) | assumption)) (of_decide_eq_true (by first | (with_reducible assumption) | assumption))
                      have HP37 := Kd.R_putg HO_16.out (x17_1 : Int) (wrap64 ((wrap64 (1 + t218)) * (rd t215 x17_1)))
                      try go_wp2_with (first | ((with_reducible refine gate_store (t := 2) (p := 87) rfl ?_); refine store_event (t := 2) (p := 87) (v := ?vo_w38) (w1 := (w36.setCell ⟨go31, (x17_1 : Int).toNat, none⟩ (.int .i64 (wrap64 ((wrap64 (1 + t218)) * (rd t215 x17_1)))))) ?hg ?ho ?hn ?hr ?_; (case ho => rfl); (case hg => rfl); (case hn => rfl); (case hr => first | (go_simp; done) | (go_simp; rfl)); intro w38 hw; have hg : w36.grownBy w38 (some go31) := (by rw [hw]; exact HP37.2); have hp_ : Kd.R (Kd.int .i64) 2 w38 w.heap.size (fun k_ => some k_ ≠ (.slice (some ad229) t215.length co23 : Value).ownBlock) (.slice (some ⟨go31, 0, none⟩) x16_1.length co31) y230 := (by rw [hw, Ny230.out]; exact HP37.1); clear HP37; have n0_ := Aside0.mk (Kd.R_after (v := (.slice (some ⟨go31, 0, none⟩) x16_1.length co31)) (v1 := (.slice (some ⟨go31, 0, none⟩) x16_1.length co31)) (ok := (fun _ => True)) (by (with_reducible repeat (first | apply Kd.R_alloc | apply Kd.R_drewN | apply Kd.R_drew)); exact Kd.R_mono HO_13.out (fun _ hk => ⟨trivial, hk⟩)) hg (.inl rfl)); have n1_ := Aside0.mk (hp_); have n2_ := Aside0.mk (Kd.R_over' (v := (.slice (some ⟨go31, 0, none⟩) x16_1.length co31)) (by (with_reducible repeat (first | apply Kd.R_alloc | apply Kd.R_drewN | apply Kd.R_drew)); exact HO_215003.out) (Kd.R_typed HO_16.out) (by decide) hg); have n3_ := Aside0.mk (blk_grown (g := gb214) (o := .cells #[.int .i64 t208, .int .i64 t209, .int .i64 t210, .slice (some ad223) t211.length co17] 26 (0, 0)) (by (with_reducible repeat (first | refine blk_drewN ?_ _ | refine blk_drew ?_ | refine blk_alloc ?_ _)); exact BK214.out) hg (Kd.R_ne HO_16.out BK214.out (by decide))); have n4_ := Aside0.mk (blk_grown (g := gb219) (o := .cells #[.int .i64 t208, .int .i64 t209, .int .i64 t210, .slice Ao34 y226.length co34] 26 (0, 0)) (by (with_reducible repeat (first | refine blk_drewN ?_ _ | refine blk_drew ?_ | refine blk_alloc ?_ _)); exact BK219.out) hg (Kd.R_ne HO_16.out BK219.out (by decide))); have n5_ := Aside0.mk (Kd.R_over' (v := (.slice (some ⟨go31, 0, none⟩) x16_1.length co31)) (by (with_reducible repeat (first | apply Kd.R_alloc | apply Kd.R_drewN | apply Kd.R_drew)); exact HO228.out) (Kd.R_typed HO_16.out) (by decide) hg); have n6_ := Aside0.mk ((by rw [hw]; exact below_set (HB.out) GB31.out : Below w.heap.size w w38)); clear HO_13; clear HO_16; clear HO_215003; clear BK214; clear BK219; clear HO228; clear HB; have HO_13 := n0_; have HO_16 := n1_; have HO_215003 := n2_; have BK214 := n3_; have BK219 := n4_; have HO228 := n5_; have HB := n6_; clear n0_ n1_ n2_ n3_ n4_ n5_ n6_; clear hg hw hp_))
                      go_roundg k1
                      case measure => have := HK1.out; omega
                      case rel => exact ⟨(y230), (wrap64 (x17_1 + 1)), (y226), (.slice Ao34 y226.length co34), (by first | rfl | (simp; done) | (simp [*]; done)), H', ⟨by have := HK1.out; omega⟩, ⟨by (with_reducible repeat (first | apply Kd.R_alloc | apply Kd.R_drewN | apply Kd.R_drew)); exact Kd.R_mono HO_13.out (fun _ hk => hk.2)⟩, ⟨by (with_reducible repeat (first | apply Kd.R_alloc | apply Kd.R_drewN | apply Kd.R_drew)); exact HO_16.out⟩, ⟨by (with_reducible repeat (first | apply Kd.R_alloc | apply Kd.R_drewN | apply Kd.R_drew)); exact HO_215003.out⟩, ⟨by (with_reducible repeat (first | apply Kd.R_alloc | apply Kd.R_drewN | apply Kd.R_drew)); exact HO228.out⟩, ⟨by (with_reducible repeat (first | refine blk_drewN ?_ _ | refine blk_drew ?_ | refine blk_alloc ?_ _)); exact BK214.out⟩, ⟨by (with_reducible repeat (first | refine blk_drewN ?_ _ | refine blk_drew ?_ | refine blk_alloc ?_ _)); exact BK219.out⟩, ⟨by repeat (first | (with_reducible first | exact HB.out | apply below_alloc | apply pw_below_drewN | apply below_drew1 | refine below_set ?_ GE214.out | refine below_set ?_ GE219.out) | exact HB.out)⟩⟩
                    · rw [if_neg c30] at H
                      exact absurd H (by simp)
                  · rw [if_neg c29] at H
                    exact absurd H (by simp)
                · rw [if_neg c28] at H
                  exact absurd H (by simp)
              · rw [if_neg c27] at H
                exact absurd H (by simp)
            · rw [if_neg c26] at H
              have c26b0 : decide (x17_1 < (t215.length : Int)) = false := decide_eq_false c26
              clear c26
              replace H := Option.bind_eq_some_iff.mp H
              obtain ⟨⟨t231, t232⟩, A390, H⟩ := H
              replace H : ((flow_Value.f k1 t208 t209 t210 x220003_1 x16_1).bind fun bt233 => (if 0 ≤ (x16_1.length : Int) then (if ((x16_1.length : Int) : Int).toNat ≤ 35184372088832 then ((flow_Add.f k1 t208 t209 t210 x220003_1 x16_1 (List.replicate ((x16_1.length : Int) : Int).toNat 0)).bind fun bt238 => (if t232 = 0 then (if bt233.2 = 0 then (if bt233.1 = (wrap64 ((wrap64 (1 + t218)) * t231)) then (if bt238.2 = 0 then ((racewayref5_Same.f k1 bt238.1 x16_1).bind fun t242 => (some t242)) else (some false)) else (some false)) else (some false)) else (some false))) else (none)) else (none))) = some r := H
              have A39 := Aside0.mk A390
              clear A390
              replace H := Option.bind_eq_some_iff.mp H
              obtain ⟨⟨t233, t234⟩, A400, H⟩ := H
              replace H : (if 0 ≤ (x16_1.length : Int) then (if ((x16_1.length : Int) : Int).toNat ≤ 35184372088832 then ((flow_Add.f k1 t208 t209 t210 x220003_1 x16_1 (List.replicate ((x16_1.length : Int) : Int).toNat 0)).bind fun bt238 => (if t232 = 0 then (if t234 = 0 then (if t233 = (wrap64 ((wrap64 (1 + t218)) * t231)) then (if bt238.2 = 0 then ((racewayref5_Same.f k1 bt238.1 x16_1).bind fun t242 => (some t242)) else (some false)) else (some false)) else (some false)) else (some false))) else (none)) else (none)) = some r := H
              have A40 := Aside0.mk A400
              clear A400
              by_cases c41 : 0 ≤ (x16_1.length : Int)
              · rw [if_pos c41] at H
                have c41b0 := eq_true c41
                have c41b1 : decide (0 ≤ (x16_1.length : Int)) = true := decide_eq_true c41
                clear c41
                by_cases c42 : ((x16_1.length : Int) : Int).toNat ≤ 35184372088832
                · rw [if_pos c42] at H
                  have c42b0 := eq_true c42
                  have c42b1 : decide (((x16_1.length : Int) : Int).toNat ≤ 35184372088832) = true := decide_eq_true c42
                  clear c42
                  obtain ⟨y235, hy235⟩ : ∃ y_ : List Int, y_ = (List.replicate ((x16_1.length : Int) : Int).toNat 0) := ⟨_, rfl⟩
                  replace H : ((flow_Add.f k1 t208 t209 t210 x220003_1 x16_1 y235).bind fun bt238 => (if t232 = 0 then (if t234 = 0 then (if t233 = (wrap64 ((wrap64 (1 + t218)) * t231)) then (if bt238.2 = 0 then ((racewayref5_Same.f k1 bt238.1 x16_1).bind fun t242 => (some t242)) else (some false)) else (some false)) else (some false)) else (some false))) = some r := by first | (rw [hy235]; with_reducible exact H) | (have H2_ := (Option.bind_some _ _).symm.trans H; rw [hy235]; with_reducible exact H2_) | (have H2_ := (Option.bind_some _ _).symm.trans H; with_reducible exact H2_) | with_reducible exact H | (rw [hy235]; exact H) | exact H
                  have Ny235 := Aside0.mk hy235
                  clear hy235
                  replace H := Option.bind_eq_some_iff.mp H
                  obtain ⟨⟨t238, t241⟩, A430, H⟩ := H
                  replace H : (if t232 = 0 then (if t234 = 0 then (if t233 = (wrap64 ((wrap64 (1 + t218)) * t231)) then (if t241 = 0 then ((racewayref5_Same.f k1 t238 x16_1).bind fun t242 => (some t242)) else (some false)) else (some false)) else (some false)) else (some false)) = some r := H
                  have A43 := Aside0.mk A430
                  clear A430
                  by_cases c44 : t232 = 0
                  · rw [if_pos c44] at H
                    have c44b0 : (t232 == 0) = true := beq_iff_eq.mpr c44
                    have c44b1 : (t232 != 0) = false := bne_eq_false_iff_eq.mpr c44
                    clear c44
                    by_cases c45 : t234 = 0
                    · rw [if_pos c45] at H
                      have c45b0 : (t234 == 0) = true := beq_iff_eq.mpr c45
                      have c45b1 : (t234 != 0) = false := bne_eq_false_iff_eq.mpr c45
                      clear c45
                      by_cases c46 : t233 = (wrap64 ((wrap64 (1 + t218)) * t231))
                      · rw [if_pos c46] at H
                        have c46b0 : (t233 == (wrap64 ((wrap64 (1 + t218)) * t231))) = true := beq_iff_eq.mpr c46
                        have c46b1 : (t233 != (wrap64 ((wrap64 (1 + t218)) * t231))) = false := bne_eq_false_iff_eq.mpr c46
                        clear c46
                        by_cases c47 : t241 = 0
                        · rw [if_pos c47] at H
                          have c47b0 : (t241 == 0) = true := beq_iff_eq.mpr c47
                          have c47b1 : (t241 != 0) = false := bne_eq_false_iff_eq.mpr c47
                          clear c47
                          replace H := Option.bind_eq_some_iff.mp H
                          obtain ⟨t242, A480, H⟩ := H
                          replace H : (some t242) = some r := H
                          have A48 := Aside0.mk A480
                          clear A480
                          obtain rfl := Option.some.inj H
                          have hnb49 := NB214_219.out
                          have hnc49 := NB219_214.out
                          have hcz50_0 : wr.cell? ⟨gb214, 0, none⟩ = some (.int .i64 t208) := (blk_cell BK214.out 0).trans rfl
                          have hcz50_1 : wr.cell? ⟨gb214, 1, none⟩ = some (.int .i64 t209) := (blk_cell BK214.out 1).trans rfl
                          have hcz50_2 : wr.cell? ⟨gb214, 2, none⟩ = some (.int .i64 t210) := (blk_cell BK214.out 2).trans rfl
                          have hcz50_3 : wr.cell? ⟨gb214, 3, none⟩ = some (.slice Ao17 t211.length co17) := (blk_cell BK214.out 3).trans rfl
                          have hfz50_0 := blk_frozen BK214.out 0
                          have hfz50_1 := blk_frozen BK214.out 1
                          have hfz50_2 := blk_frozen BK214.out 2
                          have hfz50_3 := blk_frozen BK214.out 3
                          try go_wp2_with (first | ((with_reducible refine gate_callee (f := 27) rfl ?_); refine goesL_ (some 91) rfl rfl Try.func27 (by kernel_rfl) rfl #[.agg #[.int .i64 t208, .int .i64 t209, .int .i64 t210, .slice Ao17 t211.length co17], .slice Ao23 t215.length co23] rfl (by (try simp only [List.map_toArray, List.map_cons, List.map_nil]); first | done | rfl | (simp only [List.length_drop, List.length_take]; rfl)) ?_; (with_reducible refine (flow_Value.calls k1 t208 t209 t210 _ _ t211 _ _ t215 t231 t232 _ ?side1 ?side2 ?side3 ?side4 A39.out).mono ?_); (case side1 => repeat (first | exact (Kd.R_reads' HO_215003.out).2.2 | (with_reducible refine Kd.C_alloc ?_ _) | (with_reducible refine Kd.C_drewN ?_ _) | (with_reducible refine Kd.C_drew ?_))); (case side2 => exact (Kd.R_reads' HO_215003.out).2.1); (case side3 => repeat (first | exact (Kd.R_reads' HO_13.out).2.2 | (with_reducible refine Kd.C_alloc ?_ _) | (with_reducible refine Kd.C_drewN ?_ _) | (with_reducible refine Kd.C_drew ?_))); (case side4 => exact (Kd.R_reads' HO_13.out).2.1); rintro e w51 ⟨rfl, hb⟩; refine ⟨_, rfl, ?_⟩; have n0_ := Aside0.mk (Kd.R_below (by (with_reducible repeat (first | apply Kd.R_alloc | apply Kd.R_drewN | apply Kd.R_drew)); exact HO_13.out) hb); have n1_ := Aside0.mk (Kd.R_below (by (with_reducible repeat (first | apply Kd.R_alloc | apply Kd.R_drewN | apply Kd.R_drew)); exact HO_16.out) hb); have n2_ := Aside0.mk (Kd.R_below (by (with_reducible repeat (first | apply Kd.R_alloc | apply Kd.R_drewN | apply Kd.R_drew)); exact HO_215003.out) hb); have n3_ := Aside0.mk (Kd.R_below (by (with_reducible repeat (first | apply Kd.R_alloc | apply Kd.R_drewN | apply Kd.R_drew)); exact HO_220003.out) hb); have n4_ := Aside0.mk (blk_below (g := gb214) (o := .cells #[.int .i64 t208, .int .i64 t209, .int .i64 t210, .slice Ao17 t211.length co17] 26 (0, 0)) (by (with_reducible repeat (first | refine blk_drewN ?_ _ | refine blk_drew ?_ | refine blk_alloc ?_ _)); exact BK214.out) hb); have n5_ := Aside0.mk (blk_below (g := gb219) (o := .cells #[.int .i64 t208, .int .i64 t209, .int .i64 t210, u220003] 26 (0, 0)) (by (with_reducible repeat (first | refine blk_drewN ?_ _ | refine blk_drew ?_ | refine blk_alloc ?_ _)); exact BK219.out) hb); have n6_ := Aside0.mk (below_step (by repeat (first | (with_reducible first | exact HB.out | apply below_alloc | apply pw_below_drewN | apply below_drew1 | refine below_set ?_ GE214.out | refine below_set ?_ GE219.out) | exact HB.out)) hb); clear HO_13; clear HO_16; clear HO_215003; clear HO_220003; clear BK214; clear BK219; clear HB; have HO_13 := n0_; have HO_16 := n1_; have HO_215003 := n2_; have HO_220003 := n3_; have BK214 := n4_; have BK219 := n5_; have HB := n6_; clear n0_ n1_ n2_ n3_ n4_ n5_ n6_; (try clear hb); (try clear hb2); (try clear hk); (try clear hi); have hcz52_0 : w51.cell? ⟨gb219, 0, none⟩ = some (.int .i64 t208) := (blk_cell BK219.out 0).trans rfl; have hcz52_1 : w51.cell? ⟨gb219, 1, none⟩ = some (.int .i64 t209) := (blk_cell BK219.out 1).trans rfl; have hcz52_2 : w51.cell? ⟨gb219, 2, none⟩ = some (.int .i64 t210) := (blk_cell BK219.out 2).trans rfl; have hcz52_3 : w51.cell? ⟨gb219, 3, none⟩ = some (u220003) := (blk_cell BK219.out 3).trans rfl; have hfz52_0 := blk_frozen BK219.out 0; have hfz52_1 := blk_frozen BK219.out 1; have hfz52_2 := blk_frozen BK219.out 2; have hfz52_3 := blk_frozen BK219.out 3; obtain ⟨Ao53, co53, eo53⟩ := Kd.R_slice HO_220003.out; subst eo53; obtain ⟨Ao54, co54, eo54⟩ := Kd.R_slice HO_16.out; subst eo54) | ((with_reducible refine gate_callee (f := 27) rfl ?_); refine goesL_ (some 97) rfl rfl Try.func27 (by kernel_rfl) rfl #[.agg #[.int .i64 t208, .int .i64 t209, .int .i64 t210, .slice Ao53 x220003_1.length co53], .slice Ao54 x16_1.length co54] rfl (by (try simp only [List.map_toArray, List.map_cons, List.map_nil]); first | done | rfl | (simp only [List.length_drop, List.length_take]; rfl)) ?_; (with_reducible refine (flow_Value.calls k1 t208 t209 t210 _ _ x220003_1 _ _ x16_1 t233 t234 _ ?side1 ?side2 ?side3 ?side4 A40.out).mono ?_); (case side1 => repeat (first | exact (Kd.R_reads' HO_220003.out).2.2 | (with_reducible refine Kd.C_alloc ?_ _) | (with_reducible refine Kd.C_drewN ?_ _) | (with_reducible refine Kd.C_drew ?_))); (case side2 => exact (Kd.R_reads' HO_220003.out).2.1); (case side3 => repeat (first | exact (Kd.R_reads' HO_16.out).2.2 | (with_reducible refine Kd.C_alloc ?_ _) | (with_reducible refine Kd.C_drewN ?_ _) | (with_reducible refine Kd.C_drew ?_))); (case side4 => exact (Kd.R_reads' HO_16.out).2.1); rintro e w55 ⟨rfl, hb⟩; refine ⟨_, rfl, ?_⟩; have n0_ := Aside0.mk (Kd.R_below (by (with_reducible repeat (first | apply Kd.R_alloc | apply Kd.R_drewN | apply Kd.R_drew)); exact HO_13.out) hb); have n1_ := Aside0.mk (Kd.R_below (by (with_reducible repeat (first | apply Kd.R_alloc | apply Kd.R_drewN | apply Kd.R_drew)); exact HO_16.out) hb); have n2_ := Aside0.mk (Kd.R_below (by (with_reducible repeat (first | apply Kd.R_alloc | apply Kd.R_drewN | apply Kd.R_drew)); exact HO_215003.out) hb); have n3_ := Aside0.mk (Kd.R_below (by (with_reducible repeat (first | apply Kd.R_alloc | apply Kd.R_drewN | apply Kd.R_drew)); exact HO_220003.out) hb); have n4_ := Aside0.mk (blk_below (g := gb214) (o := .cells #[.int .i64 t208, .int .i64 t209, .int .i64 t210, .slice Ao17 t211.length co17] 26 (0, 0)) (by (with_reducible repeat (first | refine blk_drewN ?_ _ | refine blk_drew ?_ | refine blk_alloc ?_ _)); exact BK214.out) hb); have n5_ := Aside0.mk (blk_below (g := gb219) (o := .cells #[.int .i64 t208, .int .i64 t209, .int .i64 t210, .slice Ao53 x220003_1.length co53] 26 (0, 0)) (by (with_reducible repeat (first | refine blk_drewN ?_ _ | refine blk_drew ?_ | refine blk_alloc ?_ _)); exact BK219.out) hb); have n6_ := Aside0.mk (below_step (by repeat (first | (with_reducible first | exact HB.out | apply below_alloc | apply pw_below_drewN | apply below_drew1 | refine below_set ?_ GE214.out | refine below_set ?_ GE219.out) | exact HB.out)) hb); clear HO_13; clear HO_16; clear HO_215003; clear HO_220003; clear BK214; clear BK219; clear HB; have HO_13 := n0_; have HO_16 := n1_; have HO_215003 := n2_; have HO_220003 := n3_; have BK214 := n4_; have BK219 := n5_; have HB := n6_; clear n0_ n1_ n2_ n3_ n4_ n5_ n6_; (try clear hb); (try clear hb2); (try clear hk); (try clear hi)))
                          have n0_ := Aside0.mk (Kd.R_drew HO_13.out)
                          have n1_ := Aside0.mk (Kd.R_drew HO_16.out)
                          have n2_ := Aside0.mk (Kd.R_drew HO_215003.out)
                          have n3_ := Aside0.mk (Kd.R_drew HO_220003.out)
                          have n4_ := Aside0.mk (blk_drew BK214.out)
                          have n5_ := Aside0.mk (blk_drew BK219.out)
                          have n6_ := Aside0.mk (below_drew1 HB.out)
                          clear HO_13
                          clear HO_16
                          clear HO_215003
                          clear HO_220003
                          clear BK214
                          clear BK219
                          clear HB
                          have HO_13 := n0_
                          have HO_16 := n1_
                          have HO_215003 := n2_
                          have HO_220003 := n3_
                          have BK214 := n4_
                          have BK219 := n5_
                          have HB := n6_
                          clear n0_ n1_ n2_ n3_ n4_ n5_ n6_
                          refine start_ (n := 11) (S := fun w' => w'.cell? ⟨gb219, 0, none⟩ = some (.int .i64 t208) ∧ w'.cell? ⟨gb219, 1, none⟩ = some (.int .i64 t209) ∧ w'.cell? ⟨gb219, 2, none⟩ = some (.int .i64 t210) ∧ w'.cell? ⟨gb219, 3, none⟩ = some (.slice Ao53 x220003_1.length co53)) (ds := []) #[false, false, false, false, false, false, false, false, false, false, false] (by kernel_rfl) rfl rfl ⟨(blk_cell BK219.out 0).trans rfl, (blk_cell BK219.out 1).trans rfl, (blk_cell BK219.out 2).trans rfl, (blk_cell BK219.out 3).trans rfl⟩ (fun hHeld => ?_); refine with_tabW racewaylaw5_FlowScales.tab16 racewaylaw5_FlowScales.bits16 (fun HT_ HW_ => ?_)
                          generalize w55.drew = w56 at HO_13 HO_16 HO_215003 HO_220003 BK214 BK219 HB hHeld ⊢
                          refine pure_ (i := 1) (N := some 102) (v := ?_) (a' := ?_) #[false, true, false, false, false, false, false, false, false, false, false] rfl rfl (any_of HT_.out (by kernel_rfl)) (fun _ _ _ h => h) (Or.inl ⟨by rfl, ?_⟩) ?_ ?_
                          rotate_left
                          · intro w'
                            go_simp
                            with_reducible rfl
                          rotate_left
                          · simp only [Act.put, List.setIfInBounds_toArray, List.set_cons_zero, List.set_cons_succ, i64_w, i32_w]
                            rfl
                          refine pure_ (i := 2) (N := some 103) (v := ?_) (a' := ?_) #[false, true, true, false, false, false, false, false, false, false, false] rfl rfl (any_of HT_.out (by kernel_rfl)) (fun _ _ _ h => h) (Or.inl ⟨by rfl, ?_⟩) ?_ ?_
                          rotate_left
                          · intro w'
                            go_simp
                            with_reducible rfl
                          rotate_left
                          · simp only [Act.put, List.setIfInBounds_toArray, List.set_cons_zero, List.set_cons_succ, i64_w, i32_w]
                            rfl
                          refine pure_ (i := 3) (N := some 104) (v := ?_) (a' := ?_) #[false, true, true, true, false, false, false, false, false, false, false] rfl rfl (any_of HT_.out (by kernel_rfl)) (fun _ _ _ h => h) (Or.inl ⟨by rfl, ?_⟩) ?_ ?_
                          rotate_left
                          · intro w'
                            go_simp
                            with_reducible rfl
                          rotate_left
                          · simp only [Act.put, List.setIfInBounds_toArray, List.set_cons_zero, List.set_cons_succ, i64_w, i32_w]
                            rfl
                          refine take_ (i := 0) (N := some 101) (v := ?_) (a' := ?_) #[true, true, true, true, false, false, false, false, false, false, false] rfl rfl (take_ofW HT_.out HW_.out (by kernel_rfl)) (fun _ _ _ h => h) (Or.inl ⟨by rfl, ?_⟩) hHeld ?_ ?_
                          rotate_left
                          · rintro w' ⟨s0, s1, s2, s3⟩
                            go_simp
                            with_reducible rfl
                          rotate_left
                          · simp only [Act.put, List.setIfInBounds_toArray, List.set_cons_zero, List.set_cons_succ, i64_w, i32_w]
                            rfl
                          refine one_ (i := 4) (N := some 105) #[true, true, true, true, true, false, false, false, false, false, false] rfl rfl (one_of HT_.out (by kernel_rfl)) (by decide) (fun K hK => ?_)
                          refine Kd.R_make_step (Kd.int .i64) _ 2 (by rfl) (N := 105) rfl 47 _ _ rfl (x16_1.length : Int) rfl rfl Try.underlying47 (.int .i64 0) 8 info2 rfl (by decide) (by omega) 0 (ok := fun _ => True) (okp := fun _ => True) rfl (fun _ hk => hk) trivial (of_decide_eq_true (by first | (with_reducible assumption) | assumption)) (Nat.le_trans (Nat.mul_le_mul_right _ (of_decide_eq_true (by first | (with_reducible assumption) | assumption) : (x16_1.length : Int).toNat ≤ 35184372088832)) (by omega)) (Below.refl _ _) (Nat.le_refl _) ?_
                          intro v236 w57 ho58 hb hg_ hnew_
                          clear hg_ hnew_
                          (first | rw [← Ny235.out] at ho58 | (simp only [Int.reduceToNat] at ho58; rw [← Ny235.out] at ho58))
                          have n0_ := Aside0.mk (Kd.R_elder' (by (with_reducible repeat (first | apply Kd.R_alloc | apply Kd.R_drewN | apply Kd.R_drew)); exact HO_13.out) (Kd.R_base ho58) hb)
                          have n1_ := Aside0.mk (Kd.R_elder' (by (with_reducible repeat (first | apply Kd.R_alloc | apply Kd.R_drewN | apply Kd.R_drew)); exact HO_16.out) (Kd.R_base ho58) hb)
                          have n2_ := Aside0.mk (Kd.R_below (by (with_reducible repeat (first | apply Kd.R_alloc | apply Kd.R_drewN | apply Kd.R_drew)); exact HO_215003.out) hb)
                          have n3_ := Aside0.mk (Kd.R_below (by (with_reducible repeat (first | apply Kd.R_alloc | apply Kd.R_drewN | apply Kd.R_drew)); exact HO_220003.out) hb)
                          have n4_ := Aside0.mk (Kd.R_lower (Kd.R_new' (Kd.R_new' ho58 (Kd.R_lt (by (with_reducible repeat (first | apply Kd.R_alloc | apply Kd.R_drewN | apply Kd.R_drew)); exact HO_13.out))) (Kd.R_lt (by (with_reducible repeat (first | apply Kd.R_alloc | apply Kd.R_drewN | apply Kd.R_drew)); exact HO_16.out))) (below_size (by repeat (first | (with_reducible first | exact HB.out | apply below_alloc | apply pw_below_drewN | apply below_drew1 | refine below_set ?_ GE214.out | refine below_set ?_ GE219.out) | exact HB.out))))
                          have n5_ := Aside0.mk (blk_below (g := gb214) (o := .cells #[.int .i64 t208, .int .i64 t209, .int .i64 t210, .slice Ao17 t211.length co17] 26 (0, 0)) (by (with_reducible repeat (first | refine blk_drewN ?_ _ | refine blk_drew ?_ | refine blk_alloc ?_ _)); exact BK214.out) hb)
                          have n6_ := Aside0.mk (blk_below (g := gb219) (o := .cells #[.int .i64 t208, .int .i64 t209, .int .i64 t210, .slice Ao53 x220003_1.length co53] 26 (0, 0)) (by (with_reducible repeat (first | refine blk_drewN ?_ _ | refine blk_drew ?_ | refine blk_alloc ?_ _)); exact BK219.out) hb)
                          have n7_ := Aside0.mk (below_step (by repeat (first | (with_reducible first | exact HB.out | apply below_alloc | apply pw_below_drewN | apply below_drew1 | refine below_set ?_ GE214.out | refine below_set ?_ GE219.out) | exact HB.out)) hb)
                          clear HO_13
                          clear HO_16
                          clear HO_215003
                          clear HO_220003
                          clear BK214
                          clear BK219
                          clear HB
                          have HO_13 := n0_
                          have HO_16 := n1_
                          have HO_215003 := n2_
                          have HO_220003 := n3_
                          have HO237 := n4_
                          have BK214 := n5_
                          have BK219 := n6_
                          have HB := n7_
                          clear n0_ n1_ n2_ n3_ n4_ n5_ n6_ n7_
                          clear hb ho58
                          obtain ⟨Ao59, co59, eo59⟩ := Kd.R_slice HO237.out
                          (first | subst eo59 | (injection eo59 with f1_ f2_ f3_; have f4_ := f1_.symm; have f5_ := f3_.symm; clear f1_ f2_ f3_; subst f4_; subst f5_))
                          refine hK.out _ _ ⟨(blk_cell BK219.out 0).trans rfl, (blk_cell BK219.out 1).trans rfl, (blk_cell BK219.out 2).trans rfl, (blk_cell BK219.out 3).trans rfl⟩ (fun hHeld => ?_)
                          clear hK K
                          refine norm_ (a' := ?_) ?_ ?_
                          rotate_left
                          · show Act.put _ (some 105) _ = _
                            simp only [Act.put, List.setIfInBounds_toArray, List.set_cons_zero, List.set_cons_succ, i64_w, i32_w]
                            rfl
                          refine one_ (i := 5) (N := some 106) #[true, true, true, true, true, true, false, false, false, false, false] rfl rfl (one_of HT_.out (by kernel_rfl)) (by decide) (fun K hK => ?_)
                          refine goes_ Try.func30 (by kernel_rfl) rfl #[.agg #[.int .i64 t208, .int .i64 t209, .int .i64 t210, .slice Ao53 x220003_1.length co53], .slice Ao54 x16_1.length co54, .slice Ao59 y235.length co59] (by rfl) rfl rfl (by (try simp only [List.map_toArray, List.map_cons, List.map_nil]); first | done | rfl | (simp only [List.length_drop, List.length_take]; rfl)) ?_
                          with_reducible refine (flow_Add.calls k1 t208 t209 t210 _ _ x220003_1 _ _ x16_1 _ _ y235 t238 t241 _ ?side1 ?side2 ?side3 ?side4 ?side5 ?side6 A43.out).mono ?_
                          (case side1 => repeat (first | exact (Kd.R_reads' HO_220003.out).2.2 | (with_reducible refine Kd.C_alloc ?_ _) | (with_reducible refine Kd.C_drewN ?_ _) | (with_reducible refine Kd.C_drew ?_)))
                          (case side2 => exact (Kd.R_reads' HO_220003.out).2.1)
                          (case side3 => repeat (first | exact (Kd.R_reads' HO_16.out).2.2 | (with_reducible refine Kd.C_alloc ?_ _) | (with_reducible refine Kd.C_drewN ?_ _) | (with_reducible refine Kd.C_drew ?_)))
                          (case side4 => exact (Kd.R_reads' HO_16.out).2.1)
                          (case side5 => repeat (first | exact (Kd.R_reads' HO237.out).2.2 | (with_reducible refine Kd.C_alloc ?_ _) | (with_reducible refine Kd.C_drewN ?_ _) | (with_reducible refine Kd.C_drew ?_)))
                          (case side6 => exact (Kd.R_reads' HO237.out).2.1)
                          rintro e w60 ⟨v239, rfl, ho0, hb⟩
                          refine ⟨_, rfl, ?_⟩
                          have n0_ := Aside0.mk (Kd.R_elder' (by (with_reducible repeat (first | apply Kd.R_alloc | apply Kd.R_drewN | apply Kd.R_drew)); exact HO_13.out) (Kd.R_base ho0) hb)
                          have n1_ := Aside0.mk (Kd.R_elder' (by (with_reducible repeat (first | apply Kd.R_alloc | apply Kd.R_drewN | apply Kd.R_drew)); exact HO_16.out) (Kd.R_base ho0) hb)
                          have n2_ := Aside0.mk (Kd.R_below (by (with_reducible repeat (first | apply Kd.R_alloc | apply Kd.R_drewN | apply Kd.R_drew)); exact HO_215003.out) hb)
                          have n3_ := Aside0.mk (Kd.R_below (by (with_reducible repeat (first | apply Kd.R_alloc | apply Kd.R_drewN | apply Kd.R_drew)); exact HO_220003.out) hb)
                          have n4_ := Aside0.mk (Kd.R_elder' (by (with_reducible repeat (first | apply Kd.R_alloc | apply Kd.R_drewN | apply Kd.R_drew)); exact HO237.out) (Kd.R_base ho0) hb)
                          have n5_ := Aside0.mk (Kd.R_lower (Kd.R_new' (Kd.R_new' (Kd.R_new' ho0 (Kd.R_lt (by (with_reducible repeat (first | apply Kd.R_alloc | apply Kd.R_drewN | apply Kd.R_drew)); exact HO_13.out))) (Kd.R_lt (by (with_reducible repeat (first | apply Kd.R_alloc | apply Kd.R_drewN | apply Kd.R_drew)); exact HO_16.out))) (Kd.R_lt (by (with_reducible repeat (first | apply Kd.R_alloc | apply Kd.R_drewN | apply Kd.R_drew)); exact HO237.out))) (below_size (by repeat (first | (with_reducible first | exact HB.out | apply below_alloc | apply pw_below_drewN | apply below_drew1 | refine below_set ?_ GE214.out | refine below_set ?_ GE219.out) | exact HB.out))))
                          have n6_ := Aside0.mk (blk_below (g := gb214) (o := .cells #[.int .i64 t208, .int .i64 t209, .int .i64 t210, .slice Ao17 t211.length co17] 26 (0, 0)) (by (with_reducible repeat (first | refine blk_drewN ?_ _ | refine blk_drew ?_ | refine blk_alloc ?_ _)); exact BK214.out) hb)
                          have n7_ := Aside0.mk (blk_below (g := gb219) (o := .cells #[.int .i64 t208, .int .i64 t209, .int .i64 t210, .slice Ao53 x220003_1.length co53] 26 (0, 0)) (by (with_reducible repeat (first | refine blk_drewN ?_ _ | refine blk_drew ?_ | refine blk_alloc ?_ _)); exact BK219.out) hb)
                          have n8_ := Aside0.mk (below_step (by repeat (first | (with_reducible first | exact HB.out | apply below_alloc | apply pw_below_drewN | apply below_drew1 | refine below_set ?_ GE214.out | refine below_set ?_ GE219.out) | exact HB.out)) hb)
                          clear HO_13
                          clear HO_16
                          clear HO_215003
                          clear HO_220003
                          clear HO237
                          clear BK214
                          clear BK219
                          clear HB
                          have HO_13 := n0_
                          have HO_16 := n1_
                          have HO_215003 := n2_
                          have HO_220003 := n3_
                          have HO237 := n4_
                          have HO240 := n5_
                          have BK214 := n6_
                          have BK219 := n7_
                          have HB := n8_
                          clear n0_ n1_ n2_ n3_ n4_ n5_ n6_ n7_ n8_
                          (try clear hb)
                          (try clear hb2)
                          (try clear hk)
                          (try clear hi)
                          (try clear ho0)
                          refine hK.out _ _ ⟨(blk_cell BK219.out 0).trans rfl, (blk_cell BK219.out 1).trans rfl, (blk_cell BK219.out 2).trans rfl, (blk_cell BK219.out 3).trans rfl⟩ (fun hHeld => ?_)
                          clear hK K
                          refine norm_ (a' := ?_) ?_ ?_
                          rotate_left
                          · show Act.put _ (some 106) _ = _
                            simp only [Act.put, List.setIfInBounds_toArray, List.set_cons_zero, List.set_cons_succ, i64_w, i32_w]
                            rfl
                          refine pure_ (i := 6) (N := some 100) (v := ?_) (a' := ?_) #[true, true, true, true, true, true, true, false, false, false, false] rfl rfl (any_of HT_.out (by kernel_rfl)) (fun _ _ _ h => h) (Or.inl ⟨by rfl, ?_⟩) ?_ ?_
                          rotate_left
                          · intro w'
                            go_simp
                            with_reducible rfl
                          rotate_left
                          · simp only [Act.put, List.setIfInBounds_toArray, List.set_cons_zero, List.set_cons_succ, i64_w, i32_w]
                            rfl
                          refine pure_ (i := 7) (N := some 107) (v := ?_) (a' := ?_) #[true, true, true, true, true, true, true, true, false, false, false] rfl rfl (any_of HT_.out (by kernel_rfl)) (fun _ _ _ h => h) (Or.inl ⟨by rfl, ?_⟩) ?_ ?_
                          rotate_left
                          · intro w'
                            go_simp
                            with_reducible rfl
                          rotate_left
                          · simp only [Act.put, List.setIfInBounds_toArray, List.set_cons_zero, List.set_cons_succ, i64_w, i32_w]
                            rfl
                          refine pure_ (i := 8) (N := some 108) (v := ?_) (a' := ?_) #[true, true, true, true, true, true, true, true, true, false, false] rfl rfl (any_of HT_.out (by kernel_rfl)) (fun _ _ _ h => h) (Or.inl ⟨by rfl, ?_⟩) ?_ ?_
                          rotate_left
                          · intro w'
                            go_simp
                            with_reducible rfl
                          rotate_left
                          · simp only [Act.put, List.setIfInBounds_toArray, List.set_cons_zero, List.set_cons_succ, i64_w, i32_w]
                            rfl
                          refine pure_ (i := 9) (N := some 22) (v := ?_) (a' := ?_) #[true, true, true, true, true, true, true, true, true, true, false] rfl rfl (any_of HT_.out (by kernel_rfl)) (fun _ _ _ h => h) (Or.inl ⟨by rfl, ?_⟩) ?_ ?_
                          rotate_left
                          · intro w'
                            go_simp
                            with_reducible rfl
                          rotate_left
                          · simp only [Act.put, List.setIfInBounds_toArray, List.set_cons_zero, List.set_cons_succ, i64_w, i32_w]
                            rfl
                          refine pure_ (i := 10) (N := some 23) (v := ?_) (a' := ?_) #[true, true, true, true, true, true, true, true, true, true, true] rfl rfl (any_of HT_.out (by kernel_rfl)) (fun _ _ _ h => h) (Or.inl ⟨by rfl, ?_⟩) ?_ ?_
                          rotate_left
                          · intro w'
                            go_simp
                            with_reducible rfl
                          rotate_left
                          · simp only [Act.put, List.setIfInBounds_toArray, List.set_cons_zero, List.set_cons_succ, i64_w, i32_w]
                            rfl
                          refine done_ (done_of HT_.out (by kernel_rfl)) ?_
                          obtain ⟨Ao61, co61, eo61⟩ := Kd.R_slice HO240.out
                          subst eo61
                          try go_wp2_with (first | (go_at_call 31; (with_reducible refine (racewayref5_Same.calls k1 _ _ t238 _ _ x16_1 t242 _ ?side1 ?side2 ?side3 ?side4 A48.out).mono ?_); (case side1 => repeat (first | exact (Kd.R_reads' HO240.out).2.2 | (with_reducible refine Kd.C_alloc ?_ _) | (with_reducible refine Kd.C_drewN ?_ _) | (with_reducible refine Kd.C_drew ?_))); (case side2 => exact (Kd.R_reads' HO240.out).2.1); (case side3 => repeat (first | exact (Kd.R_reads' HO_16.out).2.2 | (with_reducible refine Kd.C_alloc ?_ _) | (with_reducible refine Kd.C_drewN ?_ _) | (with_reducible refine Kd.C_drew ?_))); (case side4 => exact (Kd.R_reads' HO_16.out).2.1); rintro e w' ⟨rfl, ⟨nd, rfl⟩⟩))
                          go_ret
                          exact ⟨by first | rfl | (simp [errW_none, errW_some] <;> rfl) | (simp [*, errW_none, errW_some] <;> rfl), by repeat (first | (with_reducible first | exact HB.out | apply below_alloc | apply pw_below_drewN | apply below_drew1 | refine below_set ?_ GE214.out | refine below_set ?_ GE219.out) | exact HB.out)⟩
                        · rw [if_neg c47] at H
                          have c47b0 : (t241 == 0) = false := beq_eq_false_iff_ne.mpr c47
                          have c47b1 : (t241 != 0) = true := bne_iff_ne.mpr c47
                          exact absurd ((Option.some.inj H).trans hrT_.out) (by simp)
                      · rw [if_neg c46] at H
                        have c46b0 : (t233 == (wrap64 ((wrap64 (1 + t218)) * t231))) = false := beq_eq_false_iff_ne.mpr c46
                        have c46b1 : (t233 != (wrap64 ((wrap64 (1 + t218)) * t231))) = true := bne_iff_ne.mpr c46
                        exact absurd ((Option.some.inj H).trans hrT_.out) (by simp)
                    · rw [if_neg c45] at H
                      have c45b0 : (t234 == 0) = false := beq_eq_false_iff_ne.mpr c45
                      have c45b1 : (t234 != 0) = true := bne_iff_ne.mpr c45
                      exact absurd ((Option.some.inj H).trans hrT_.out) (by simp)
                  · rw [if_neg c44] at H
                    have c44b0 : (t232 == 0) = false := beq_eq_false_iff_ne.mpr c44
                    have c44b1 : (t232 != 0) = true := bne_iff_ne.mpr c44
                    exact absurd ((Option.some.inj H).trans hrT_.out) (by simp)
                · rw [if_neg c42] at H
                  exact absurd H (by simp)
              · rw [if_neg c41] at H
                exact absurd H (by simp)
      · rw [if_neg c12] at H
        exact absurd H (by simp)
    · rw [if_neg c11] at H
      exact absurd H (by simp)
  · replace c7 := Bool.eq_false_iff.mpr c7
    subst c7
    have H1 : (some false) = some r := by rw [if_neg (show ¬ (false = true) by decide)] at H; exact H
    clear H
    have H := H1
    clear H1
    exact absurd ((Option.some.inj H).trans hrT_.out) (by simp)

/-- THE ONE PURE STATEMENT of racewaylaw5_FlowScales. -/
def racewaylaw5_FlowScales.Pure : Prop := ∀ (a0 : Int) (a1 : Int) (l2 : List (S73)) (l3 : List Int) (a4 : Int), (Lit.int .i64 a0).wf = true → (Lit.int .i64 a1).wf = true → l2.length ≤ maxLen → (∀ x ∈ l2, (Lit.int .i64 x.f0).wf = true ∧ (Lit.int .i64 x.f1).wf = true ∧ (Lit.int .i64 x.f2).wf = true) → l3.length ≤ maxLen → l3.length * 8 ≤ 140737488351232 → (∀ x ∈ l3, (Lit.int .i64 x).wf = true) → (Lit.int .i64 a4).wf = true → ∃ k, racewaylaw5_FlowScales.f k a0 a1 l2 l3 a4 = some true
theorem racewaylaw5_FlowScales.walk (P : racewaylaw5_FlowScales.Pure) (a0 : Int) (a1 : Int) (A2 : Option Addr) (c2 : Nat) (l2 : List (S73)) (A3 : Option Addr) (c3 : Nat) (l3 : List Int) (a4 : Int) (w : World) (w0 : (Lit.int .i64 a0).wf = true) (w1 : (Lit.int .i64 a1).wf = true) (hr2 : Kd.C k73 w A2 l2.length l2) (hc2 : l2.length ≤ c2) (hm2 : l2.length ≤ maxLen) (hw2 : (∀ x ∈ l2, (Lit.int .i64 x.f0).wf = true ∧ (Lit.int .i64 x.f1).wf = true ∧ (Lit.int .i64 x.f2).wf = true)) (hr3 : Kd.C (Kd.int .i64) w A3 l3.length l3) (hc3 : l3.length ≤ c3) (hm3 : l3.length ≤ maxLen) (y3 : l3.length * 8 ≤ 140737488351232) (hw3 : (∀ x ∈ l3, (Lit.int .i64 x).wf = true)) (w4 : (Lit.int .i64 a4).wf = true) :
    Calls Try.prog 11 #[.int .i64 a0, .int .i64 a1, .slice A2 l2.length c2, .slice A3 l3.length c3, .int .i64 a4] w fun e w' => e = .returned (.bool true) ∧ Below w.heap.size w w' := by
  obtain ⟨k, h⟩ := P a0 a1 l2 l3 a4 w0 w1 hm2 hw2 hm3 y3 hw3 w4
  refine (racewaylaw5_FlowScales.calls k a0 a1 _ _ l2 _ _ l3 a4 true w hr2 hc2 hr3 hc3 h ⟨rfl⟩).mono ?_
  rintro e w' ⟨rfl, hd⟩
  exact ⟨rfl, hd⟩

end Go.Proofs.Ytjbeofcgnnlllaa.PFlowScales
