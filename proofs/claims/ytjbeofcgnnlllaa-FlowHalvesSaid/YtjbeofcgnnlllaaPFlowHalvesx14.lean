/- For the claim that the law FlowHalves of the given program holds for every input: a text written by a program (wip/myprint over the kit's print), with contracts by hand where it says MANUAL. -/
import Derived.Test.YtjbeofcgnnlllaaPFlowHalvesx0
import Derived.Test.YtjbeofcgnnlllaaPFlowHalvesx6
import Derived.Test.YtjbeofcgnnlllaaPFlowHalvesx7
import Derived.Test.YtjbeofcgnnlllaaPFlowHalvesx8
import Derived.Test.YtjbeofcgnnlllaaPFlowHalvesx9
import Derived.Test.YtjbeofcgnnlllaaPFlowHalvesx11
import Derived.Test.YtjbeofcgnnlllaaPFlowHalvesx12
import Derived.Test.YtjbeofcgnnlllaaPFlowHalvesx13
namespace Go.Proofs.Ytjbeofcgnnlllaa.PFlowHalves
open Go.RowKit Go.Proofs.YtjbeofcgnnlllaaW.PrintWords Go.Proofs.YtjbeofcgnnlllaaW.PrintLast Go.Proofs.YtjbeofcgnnlllaaW.PrintMore
attribute [local go_sem] max2_int min2_int max_two min_two max_three min_three max_four min_four   -- for this text's walks alone
set_option linter.unusedVariables false
set_option linter.unusedSimpArgs false

/-! ### racewaylaw5_FlowHalves: function 12 -/
def racewaylaw5_FlowHalves.l0 : Nat → List Int → List Int → List Int → Int → Int → Int → Int → List (S28) → Option (Bool)
  | 0, _, _, _, _, _, _, _, _ => none
  | k + 1, x13, x14, x15, x16, x215000, x215001, x215002, x215003 => if x16 < (x13.length : Int) then (if 0 ≤ x16 then (if x16 < (x14.length : Int) then (if x16 < (x15.length : Int) then (if (wrap64 ((rd x13 x16) - (rd x14 x16))) < 0 then (some false) else (racewaylaw5_FlowHalves.l0 k x13 x14 (x15.set (x16 : Int).toNat (wrap64 ((rd x13 x16) - (rd x14 x16)))) (wrap64 (x16 + 1)) x215000 x215001 x215002 x215003)) else (none)) else (none)) else (none)) else ((flow_Add.f k x215000 x215001 x215002 x215003 x14 x15).bind fun bt230 => ((flow_Value.f k x215000 x215001 x215002 x215003 x14).bind fun bt234 => ((flow_Value.f k x215000 x215001 x215002 x215003 x15).bind fun bt236 => ((flow_Value.f k x215000 x215001 x215002 x215003 x13).bind fun bt238 => (if bt230.2 = 0 then (if bt236.2 = 0 then ((racewayref5_Same.f k bt230.1 x13).bind fun t240 => (if t240 = true then (some ((wrap64 (bt234.1 + bt236.1)) == bt238.1)) else (some false))) else (some false)) else (some false))))))
def racewaylaw5_FlowHalves.f (k : Nat) (a0 : Int) (a1 : Int) (l2 : List (S73)) (l3 : List Int) (a4 : Int) : Option (Bool) := (racewaylaw5_shown.f k).bind fun t207 => (if t207 = true then ((racewaylaw5_made.f k a0 a1 l2).bind fun bt208 => ((racewaylaw5_routed.f k bt208.1 bt208.2.1 bt208.2.2.1 bt208.2.2.2 l3).bind fun t215 => ((racewaylaw5_pick.f a4 5).bind fun t218 => (if 0 ≤ (mn (l3.length : Int) t218) then (if (mn (l3.length : Int) t218) ≤ (l3.length : Int) then ((racewaylaw5_routed.f k bt208.1 bt208.2.1 bt208.2.2.1 bt208.2.2.2 (l3.take ((mn (l3.length : Int) t218) : Int).toNat)).bind fun t220 => (if 0 ≤ (t215.length : Int) then (if ((t215.length : Int) : Int).toNat ≤ 35184372088832 then (racewaylaw5_FlowHalves.l0 k t215 t220 (List.replicate ((t215.length : Int) : Int).toNat 0) 0 bt208.1 bt208.2.1 bt208.2.2.1 bt208.2.2.2) else (none)) else (none))) else (none)) else (none))))) else (some false))
theorem racewaylaw5_FlowHalves.mono_l : ∀ k, (∀ y0 y1 y2 y3 y4 y5 y6 y7, LeO (racewaylaw5_FlowHalves.l0 k y0 y1 y2 y3 y4 y5 y6 y7) (racewaylaw5_FlowHalves.l0 (k + 1) y0 y1 y2 y3 y4 y5 y6 y7))
  | 0 => fun _ _ _ _ _ _ _ _ r h => by simp [racewaylaw5_FlowHalves.l0] at h
  | k + 1 => by
    have ih0 := racewaylaw5_FlowHalves.mono_l k
    · intro y0 y1 y2 y3 y4 y5 y6 y7
      unfold racewaylaw5_FlowHalves.l0
      repeat' first
      | (with_reducible exact ih0 _ _ _ _ _ _ _ _)
      | (with_reducible exact flow_Add.mono _ _ _ _ _ _ _)
      | (with_reducible exact flow_Value.mono _ _ _ _ _ _)
      | (with_reducible exact racewaylaw5_made.mono _ _ _ _)
      | (with_reducible exact racewaylaw5_routed.mono _ _ _ _ _ _)
      | (with_reducible exact racewaylaw5_shown.mono _)
      | (with_reducible exact racewayref5_Same.mono _ _ _)
      | (with_reducible exact LeO.refl _)
      | (with_reducible exact LeO.none _)
      | (with_reducible refine LeO.ite ?_ ?_)
      | (with_reducible refine LeO.bind ?_ (fun _ => ?_))
      | exact ih0 _ _ _ _ _ _ _ _
      | exact flow_Add.mono _ _ _ _ _ _ _
      | exact flow_Value.mono _ _ _ _ _ _
      | exact racewaylaw5_made.mono _ _ _ _
      | exact racewaylaw5_routed.mono _ _ _ _ _ _
      | exact racewaylaw5_shown.mono _
      | exact racewayref5_Same.mono _ _ _
      | exact LeO.none _
      | refine LeO.ite ?_ ?_
      | refine LeO.bind ?_ (fun _ => ?_)
theorem racewaylaw5_FlowHalves.mono : ∀ a0 a1 a2 a3 a4 k, LeO (racewaylaw5_FlowHalves.f k a0 a1 a2 a3 a4) (racewaylaw5_FlowHalves.f (k + 1) a0 a1 a2 a3 a4) := by
  intro a0 a1 a2 a3 a4 k
  have ih0 := racewaylaw5_FlowHalves.mono_l k
  unfold racewaylaw5_FlowHalves.f
  repeat' first
      | (with_reducible exact ih0 _ _ _ _ _ _ _ _)
      | (with_reducible exact flow_Add.mono _ _ _ _ _ _ _)
      | (with_reducible exact flow_Value.mono _ _ _ _ _ _)
      | (with_reducible exact racewaylaw5_made.mono _ _ _ _)
      | (with_reducible exact racewaylaw5_routed.mono _ _ _ _ _ _)
      | (with_reducible exact racewaylaw5_shown.mono _)
      | (with_reducible exact racewayref5_Same.mono _ _ _)
      | (with_reducible exact LeO.refl _)
      | (with_reducible exact LeO.none _)
      | (with_reducible refine LeO.ite ?_ ?_)
      | (with_reducible refine LeO.bind ?_ (fun _ => ?_))
      | exact ih0 _ _ _ _ _ _ _ _
      | exact flow_Add.mono _ _ _ _ _ _ _
      | exact flow_Value.mono _ _ _ _ _ _
      | exact racewaylaw5_made.mono _ _ _ _
      | exact racewaylaw5_routed.mono _ _ _ _ _ _
      | exact racewaylaw5_shown.mono _
      | exact racewayref5_Same.mono _ _ _
      | exact LeO.none _
      | refine LeO.ite ?_ ?_
      | refine LeO.bind ?_ (fun _ => ?_)
def racewaylaw5_FlowHalves.T6 : Bool × List (List Nat × List Nat) := (true, [([], []), ([], []), ([], []), ([2], [2]), ([], []), ([4], [4]), ([3, 5], [3, 5]), ([1, 6], [1, 6]), ([0, 7, 5], [0, 7]), ([8, 8, 0, 1, 2, 3, 4, 5, 6, 7, 8], [8])])
def racewaylaw5_FlowHalves.B6 : List Nat := [0, 0, 0, 4, 0, 16, 60, 126, 255, 511]
theorem racewaylaw5_FlowHalves.tab6 : rtab .any (opsOf Try.f12 6) = racewaylaw5_FlowHalves.T6 := by kernel_rfl
theorem racewaylaw5_FlowHalves.bits6 : waitsOk racewaylaw5_FlowHalves.T6.2 racewaylaw5_FlowHalves.B6 = true := by kernel_rfl
def racewaylaw5_FlowHalves.T11 : Bool × List (List Nat × List Nat) := (true, [([], []), ([], []), ([], []), ([], []), ([2, 3], [2, 3]), ([4], [4]), ([], []), ([], []), ([6, 7], [6, 7]), ([8], [8]), ([5, 9], [5, 9]), ([0, 1, 0, 1, 2, 3, 4, 5, 6, 7, 8, 9, 10], [0, 1]), ([11, 10, 0, 1, 2, 3, 4, 5, 6, 7, 8, 9, 10], [10, 11])])
def racewaylaw5_FlowHalves.B11 : List Nat := [0, 0, 0, 0, 12, 28, 0, 0, 192, 448, 1020, 2047, 4095]
theorem racewaylaw5_FlowHalves.tab11 : rtab .any (opsOf Try.f12 11) = racewaylaw5_FlowHalves.T11 := by kernel_rfl
theorem racewaylaw5_FlowHalves.bits11 : waitsOk racewaylaw5_FlowHalves.T11.2 racewaylaw5_FlowHalves.B11 = true := by kernel_rfl
set_option maxHeartbeats 8000000 in
set_option maxRecDepth 100000 in
theorem racewaylaw5_FlowHalves.calls (k : Nat) (a0 : Int) (a1 : Int) (A2 : Option Addr) (c2 : Nat) (l2 : List (S73)) (A3 : Option Addr) (c3 : Nat) (l3 : List Int) (a4 : Int) (r : Bool) (w : World) (hr2 : Kd.C k73 w A2 l2.length l2) (hc2 : l2.length ≤ c2) (hr3 : Kd.C (Kd.int .i64) w A3 l3.length l3) (hc3 : l3.length ≤ c3) (h : racewaylaw5_FlowHalves.f k a0 a1 l2 l3 a4 = some r) (hrT_ : Aside0 (r = true)) :
    Calls Try.prog 12 #[.int .i64 a0, .int .i64 a1, .slice A2 l2.length c2, .slice A3 l3.length c3, .int .i64 a4] w fun e w' => e = .returned (.bool r) ∧ Below w.heap.size w w' := by
  have hu26 := Try.underlying26
  have HR2 := Aside0.mk hr2
  have HC2 := Aside0.mk hc2
  clear hr2 hc2
  have HR3 := Aside0.mk hr3
  have HC3 := Aside0.mk hc3
  clear hr3 hc3
  have HB := Aside0.mk (Below.refl w.heap.size w)
  have H : ((racewaylaw5_shown.f k).bind fun t207 => (if t207 = true then ((racewaylaw5_made.f k a0 a1 l2).bind fun bt208 => ((racewaylaw5_routed.f k bt208.1 bt208.2.1 bt208.2.2.1 bt208.2.2.2 l3).bind fun t215 => ((racewaylaw5_pick.f a4 5).bind fun t218 => (if 0 ≤ (mn (l3.length : Int) t218) then (if (mn (l3.length : Int) t218) ≤ (l3.length : Int) then ((racewaylaw5_routed.f k bt208.1 bt208.2.1 bt208.2.2.1 bt208.2.2.2 (l3.take ((mn (l3.length : Int) t218) : Int).toNat)).bind fun t220 => (if 0 ≤ (t215.length : Int) then (if ((t215.length : Int) : Int).toNat ≤ 35184372088832 then (racewaylaw5_FlowHalves.l0 k t215 t220 (List.replicate ((t215.length : Int) : Int).toNat 0) 0 bt208.1 bt208.2.1 bt208.2.2.1 bt208.2.2.2) else (none)) else (none))) else (none)) else (none))))) else (some false))) = some r := h
  clear h
  replace H := Option.bind_eq_some_iff.mp H
  obtain ⟨t207, A60, H⟩ := H
  replace H : (if t207 = true then ((racewaylaw5_made.f k a0 a1 l2).bind fun bt208 => ((racewaylaw5_routed.f k bt208.1 bt208.2.1 bt208.2.2.1 bt208.2.2.2 l3).bind fun t215 => ((racewaylaw5_pick.f a4 5).bind fun t218 => (if 0 ≤ (mn (l3.length : Int) t218) then (if (mn (l3.length : Int) t218) ≤ (l3.length : Int) then ((racewaylaw5_routed.f k bt208.1 bt208.2.1 bt208.2.2.1 bt208.2.2.2 (l3.take ((mn (l3.length : Int) t218) : Int).toNat)).bind fun t220 => (if 0 ≤ (t215.length : Int) then (if ((t215.length : Int) : Int).toNat ≤ 35184372088832 then (racewaylaw5_FlowHalves.l0 k t215 t220 (List.replicate ((t215.length : Int) : Int).toNat 0) 0 bt208.1 bt208.2.1 bt208.2.2.1 bt208.2.2.2) else (none)) else (none))) else (none)) else (none))))) else (some false)) = some r := H
  have A6 := Aside0.mk A60
  clear A60
  by_cases c7 : t207 = true
  · subst c7
    have H1 : ((racewaylaw5_made.f k a0 a1 l2).bind fun bt208 => ((racewaylaw5_routed.f k bt208.1 bt208.2.1 bt208.2.2.1 bt208.2.2.2 l3).bind fun t215 => ((racewaylaw5_pick.f a4 5).bind fun t218 => (if 0 ≤ (mn (l3.length : Int) t218) then (if (mn (l3.length : Int) t218) ≤ (l3.length : Int) then ((racewaylaw5_routed.f k bt208.1 bt208.2.1 bt208.2.2.1 bt208.2.2.2 (l3.take ((mn (l3.length : Int) t218) : Int).toNat)).bind fun t220 => (if 0 ≤ (t215.length : Int) then (if ((t215.length : Int) : Int).toNat ≤ 35184372088832 then (racewaylaw5_FlowHalves.l0 k t215 t220 (List.replicate ((t215.length : Int) : Int).toNat 0) 0 bt208.1 bt208.2.1 bt208.2.2.1 bt208.2.2.2) else (none)) else (none))) else (none)) else (none))))) = some r := by rw [if_pos rfl] at H; exact H
    clear H
    have H := H1
    clear H1
    replace H := Option.bind_eq_some_iff.mp H
    obtain ⟨⟨t208, t209, t210, t211⟩, A80, H⟩ := H
    replace H : ((racewaylaw5_routed.f k t208 t209 t210 t211 l3).bind fun t215 => ((racewaylaw5_pick.f a4 5).bind fun t218 => (if 0 ≤ (mn (l3.length : Int) t218) then (if (mn (l3.length : Int) t218) ≤ (l3.length : Int) then ((racewaylaw5_routed.f k t208 t209 t210 t211 (l3.take ((mn (l3.length : Int) t218) : Int).toNat)).bind fun t220 => (if 0 ≤ (t215.length : Int) then (if ((t215.length : Int) : Int).toNat ≤ 35184372088832 then (racewaylaw5_FlowHalves.l0 k t215 t220 (List.replicate ((t215.length : Int) : Int).toNat 0) 0 t208 t209 t210 t211) else (none)) else (none))) else (none)) else (none)))) = some r := H
    have A8 := Aside0.mk A80
    clear A80
    replace H := Option.bind_eq_some_iff.mp H
    obtain ⟨t215, A90, H⟩ := H
    replace H : ((racewaylaw5_pick.f a4 5).bind fun t218 => (if 0 ≤ (mn (l3.length : Int) t218) then (if (mn (l3.length : Int) t218) ≤ (l3.length : Int) then ((racewaylaw5_routed.f k t208 t209 t210 t211 (l3.take ((mn (l3.length : Int) t218) : Int).toNat)).bind fun t220 => (if 0 ≤ (t215.length : Int) then (if ((t215.length : Int) : Int).toNat ≤ 35184372088832 then (racewaylaw5_FlowHalves.l0 k t215 t220 (List.replicate ((t215.length : Int) : Int).toNat 0) 0 t208 t209 t210 t211) else (none)) else (none))) else (none)) else (none))) = some r := H
    have A9 := Aside0.mk A90
    clear A90
    replace H := Option.bind_eq_some_iff.mp H
    obtain ⟨t218, A100, H⟩ := H
    replace H : (if 0 ≤ (mn (l3.length : Int) t218) then (if (mn (l3.length : Int) t218) ≤ (l3.length : Int) then ((racewaylaw5_routed.f k t208 t209 t210 t211 (l3.take ((mn (l3.length : Int) t218) : Int).toNat)).bind fun t220 => (if 0 ≤ (t215.length : Int) then (if ((t215.length : Int) : Int).toNat ≤ 35184372088832 then (racewaylaw5_FlowHalves.l0 k t215 t220 (List.replicate ((t215.length : Int) : Int).toNat 0) 0 t208 t209 t210 t211) else (none)) else (none))) else (none)) else (none)) = some r := H
    have A10 := Aside0.mk A100
    clear A100
    obtain ⟨ji11, hji11⟩ : ∃ j_ : Int, (mn (l3.length : Int) t218) = j_ := ⟨_, rfl⟩
    replace H : (if 0 ≤ (ji11) then (if (ji11) ≤ (l3.length : Int) then ((racewaylaw5_routed.f k t208 t209 t210 t211 (l3.take ((ji11) : Int).toNat)).bind fun t220 => (if 0 ≤ (t215.length : Int) then (if ((t215.length : Int) : Int).toNat ≤ 35184372088832 then (racewaylaw5_FlowHalves.l0 k t215 t220 (List.replicate ((t215.length : Int) : Int).toNat 0) 0 t208 t209 t210 t211) else (none)) else (none))) else (none)) else (none)) = some r := by first | (rw [hji11] at H; exact H) | (simp only [hji11] at H ⊢; exact H)
    (try rw [hji11] at A6)
    (try rw [hji11] at A8)
    (try rw [hji11] at A9)
    (try rw [hji11] at A10)
    have hji11_ : (if t218 < (l3.length : Int) then t218 else (l3.length : Int)) = ji11 := hji11
    by_cases c12 : 0 ≤ (ji11)
    · rw [if_pos c12] at H
      have c12b0 := eq_true c12
      have c12b1 : decide (0 ≤ (ji11)) = true := decide_eq_true c12
      clear c12
      by_cases c13 : (ji11) ≤ (l3.length : Int)
      · rw [if_pos c13] at H
        have c13b0 := eq_true c13
        have c13b1 : decide ((ji11) ≤ (l3.length : Int)) = true := decide_eq_true c13
        clear c13
        replace H := Option.bind_eq_some_iff.mp H
        obtain ⟨t220, A140, H⟩ := H
        replace H : (if 0 ≤ (t215.length : Int) then (if ((t215.length : Int) : Int).toNat ≤ 35184372088832 then (racewaylaw5_FlowHalves.l0 k t215 t220 (List.replicate ((t215.length : Int) : Int).toNat 0) 0 t208 t209 t210 t211) else (none)) else (none)) = some r := H
        have A14 := Aside0.mk A140
        clear A140
        by_cases c15 : 0 ≤ (t215.length : Int)
        · rw [if_pos c15] at H
          have c15b0 := eq_true c15
          have c15b1 : decide (0 ≤ (t215.length : Int)) = true := decide_eq_true c15
          clear c15
          by_cases c16 : ((t215.length : Int) : Int).toNat ≤ 35184372088832
          · rw [if_pos c16] at H
            have c16b0 := eq_true c16
            have c16b1 : decide (((t215.length : Int) : Int).toNat ≤ 35184372088832) = true := decide_eq_true c16
            clear c16
            obtain ⟨y223, hy223⟩ : ∃ y_ : List Int, y_ = (List.replicate ((t215.length : Int) : Int).toNat 0) := ⟨_, rfl⟩
            replace H : (racewaylaw5_FlowHalves.l0 k t215 t220 y223 0 t208 t209 t210 t211) = some r := by first | (rw [hy223]; with_reducible exact H) | (have H2_ := (Option.bind_some _ _).symm.trans H; rw [hy223]; with_reducible exact H2_) | (have H2_ := (Option.bind_some _ _).symm.trans H; with_reducible exact H2_) | with_reducible exact H | (rw [hy223]; exact H) | exact H
            have Ny223 := Aside0.mk hy223
            clear hy223
            have H' := Aside0.mk H
            clear H
            go_enter Try.func12, Try.ntmps12
            try go_wp2_with (first | ((with_reducible refine gate_callee (f := 24) rfl ?_); refine goesL_ (some 25) rfl rfl Try.func24 (by kernel_rfl) rfl #[] rfl (by (try simp only [List.map_toArray, List.map_cons, List.map_nil]); first | done | rfl | (simp only [List.length_drop, List.length_take]; rfl)) ?_; (with_reducible refine (racewaylaw5_shown.calls k  true _ A6.out).mono ?_); rintro e w17 ⟨rfl, hb⟩; refine ⟨_, rfl, ?_⟩; have n0_ := Aside0.mk (below_step (by repeat (first | (with_reducible first | exact HB.out | apply below_alloc | apply pw_below_drewN | apply below_drew1) | exact HB.out)) hb); clear HB; have HB := n0_; clear n0_; (try clear hb); (try clear hb2); (try clear hk); (try clear hi)) | ((with_reducible refine gate_callee (f := 25) rfl ?_); refine goesL_ (some 31) rfl rfl Try.func25 (by kernel_rfl) rfl #[.int .i64 a0, .int .i64 a1, .slice A2 l2.length c2] rfl (by (try simp only [List.map_toArray, List.map_cons, List.map_nil]); first | done | rfl | (simp only [List.length_drop, List.length_take]; rfl)) ?_; (with_reducible refine (racewaylaw5_made.calls k a0 a1 _ _ l2 t208 t209 t210 t211 _ ?side1 ?side2 A8.out).mono ?_); (case side1 => repeat (first | exact (Kd.C_below HR2.out HB.out) | (with_reducible refine Kd.C_alloc ?_ _) | (with_reducible refine Kd.C_drewN ?_ _) | (with_reducible refine Kd.C_drew ?_))); (case side2 => exact HC2.out); rintro e w18 ⟨v212, rfl, ho0, hb⟩; refine ⟨_, rfl, ?_⟩; have n0_ := Aside0.mk (Kd.R_lower ho0 (below_size (by repeat (first | (with_reducible first | exact HB.out | apply below_alloc | apply pw_below_drewN | apply below_drew1) | exact HB.out)))); have n1_ := Aside0.mk (below_step (by repeat (first | (with_reducible first | exact HB.out | apply below_alloc | apply pw_below_drewN | apply below_drew1) | exact HB.out)) hb); clear HB; have HO213 := n0_; have HB := n1_; clear n0_ n1_; (try clear hb); (try clear hb2); (try clear hk); (try clear hi); (try clear ho0)) | ((with_reducible refine gate_dst (N := 12) rfl ?_); refine box_event ?hg (N := 12) ?hd (cs := #[.int .i64 0, .int .i64 0, .int .i64 0, .slice none 0 0]) (t := 26) ?hr ?_; (case hd => rfl); (case hg => rfl); (case hr => first | (go_simp; done) | (go_simp; rfl)); intro gb214 hg w19 hbox hb; have n0_ := Aside0.mk (Kd.R_below (by (with_reducible repeat (first | apply Kd.R_alloc | apply Kd.R_drewN | apply Kd.R_drew)); exact HO213.out) hb); have n1_ := Aside0.mk (below_step (by repeat (first | (with_reducible first | exact HB.out | apply below_alloc | apply pw_below_drewN | apply below_drew1) | exact HB.out)) hb); have n2_ := Aside0.mk (hbox); have n3_ := Aside0.mk ((by rw [hg]; exact (below_size (by repeat (first | (with_reducible first | exact HB.out | apply below_alloc | apply pw_below_drewN | apply below_drew1) | exact HB.out))) : w.heap.size ≤ gb214)); have n4_ := Aside0.mk ((by rw [hg]; exact (below_size (by repeat (first | (with_reducible first | exact HB.out | apply below_alloc | apply pw_below_drewN | apply below_drew1) | exact HB.out))) : w.heap.size ≤ gb214)); clear HO213; clear HB; have HO213 := n0_; have HB := n1_; have BK214 := n2_; have GW214 := n3_; have GE214 := n4_; clear n0_ n1_ n2_ n3_ n4_; clear hb hbox hg; have hcz20_0 : w19.cell? ⟨gb214, 0, none⟩ = some (.int .i64 0) := (blk_cell BK214.out 0).trans rfl; have hcz20_1 : w19.cell? ⟨gb214, 1, none⟩ = some (.int .i64 0) := (blk_cell BK214.out 1).trans rfl; have hcz20_2 : w19.cell? ⟨gb214, 2, none⟩ = some (.int .i64 0) := (blk_cell BK214.out 2).trans rfl; have hcz20_3 : w19.cell? ⟨gb214, 3, none⟩ = some (.slice none 0 0) := (blk_cell BK214.out 3).trans rfl; have hfz20_0 := blk_frozen BK214.out 0; have hfz20_1 := blk_frozen BK214.out 1; have hfz20_2 := blk_frozen BK214.out 2; have hfz20_3 := blk_frozen BK214.out 3; obtain ⟨Ao21, co21, eo21⟩ := Kd.R_slice HO213.out; subst eo21) | ((with_reducible refine gate_callee (f := 26) rfl ?_); refine goesL_ (some 34) rfl rfl Try.func26 (by kernel_rfl) rfl #[.agg #[.int .i64 t208, .int .i64 t209, .int .i64 t210, .slice Ao21 t211.length co21], .slice A3 l3.length c3] rfl (by (try simp only [List.map_toArray, List.map_cons, List.map_nil]); first | done | rfl | (simp only [List.length_drop, List.length_take]; rfl)) ?_; (with_reducible refine (racewaylaw5_routed.calls k t208 t209 t210 _ _ t211 _ _ l3 t215 _ ?side1 ?side2 ?side3 ?side4 A9.out).mono ?_); (case side1 => refine (Kd.R_reads' (e := 28) (base := w.heap.size) (ok := fun k_ => True) (n := t211.length) (c := co21) ?_).2.2; exact (by (with_reducible repeat (first | apply Kd.R_alloc | apply Kd.R_drewN | apply Kd.R_drew)); exact (Kd.R_mono (Kd.R_far (p := ⟨gb214, 3, none⟩) (Kd.R_far (p := ⟨gb214, 2, none⟩) (Kd.R_far (p := ⟨gb214, 1, none⟩) (Kd.R_far (p := ⟨gb214, 0, none⟩) (Kd.R_types HO213.out BK214.out (by decide)) (fun _ hk => hk.2) (.int .i64 t208)) (fun _ hk => hk.2) (.int .i64 t209)) (fun _ hk => hk.2) (.int .i64 t210)) (fun _ hk => hk.2) (.slice Ao21 t211.length co21)) (fun _ h_ => h_.1)))); (case side2 => exact (Kd.R_reads' HO213.out).2.1); (case side3 => exact Kd.C_below HR3.out (by repeat (first | (with_reducible first | exact HB.out | apply below_alloc | apply pw_below_drewN | apply below_drew1 | refine below_set ?_ GE214.out) | exact HB.out))); (case side4 => exact HC3.out); rintro e w22 ⟨v216, rfl, ho0, hb⟩; refine ⟨_, rfl, ?_⟩; have n0_ := Aside0.mk (Kd.R_below (by (with_reducible repeat (first | apply Kd.R_alloc | apply Kd.R_drewN | apply Kd.R_drew)); exact (Kd.R_mono (Kd.R_far (p := ⟨gb214, 3, none⟩) (Kd.R_far (p := ⟨gb214, 2, none⟩) (Kd.R_far (p := ⟨gb214, 1, none⟩) (Kd.R_far (p := ⟨gb214, 0, none⟩) (Kd.R_types HO213.out BK214.out (by decide)) (fun _ hk => hk.2) (.int .i64 t208)) (fun _ hk => hk.2) (.int .i64 t209)) (fun _ hk => hk.2) (.int .i64 t210)) (fun _ hk => hk.2) (.slice Ao21 t211.length co21)) (fun _ h_ => h_.1))) hb); have n1_ := Aside0.mk (Kd.R_lower ho0 (below_size (by repeat (first | (with_reducible first | exact HB.out | apply below_alloc | apply pw_below_drewN | apply below_drew1 | refine below_set ?_ GE214.out) | exact HB.out)))); have n2_ := Aside0.mk (blk_below (g := gb214) (o := .cells #[.int .i64 t208, .int .i64 t209, .int .i64 t210, .slice Ao21 t211.length co21] 26 (0, 0)) (by (with_reducible repeat (first | refine blk_drewN ?_ _ | refine blk_drew ?_ | refine blk_alloc ?_ _)); refine blk_put (cs := #[.int .i64 t208, .int .i64 t209, .int .i64 t210, .slice none 0 0]) ?_ 3 _ rfl; (with_reducible repeat (first | refine blk_drewN ?_ _ | refine blk_drew ?_ | refine blk_alloc ?_ _)); refine blk_put (cs := #[.int .i64 t208, .int .i64 t209, .int .i64 0, .slice none 0 0]) ?_ 2 _ rfl; (with_reducible repeat (first | refine blk_drewN ?_ _ | refine blk_drew ?_ | refine blk_alloc ?_ _)); refine blk_put (cs := #[.int .i64 t208, .int .i64 0, .int .i64 0, .slice none 0 0]) ?_ 1 _ rfl; (with_reducible repeat (first | refine blk_drewN ?_ _ | refine blk_drew ?_ | refine blk_alloc ?_ _)); refine blk_put (cs := #[.int .i64 0, .int .i64 0, .int .i64 0, .slice none 0 0]) ?_ 0 _ rfl; (with_reducible repeat (first | refine blk_drewN ?_ _ | refine blk_drew ?_ | refine blk_alloc ?_ _)); exact BK214.out) hb); have n3_ := Aside0.mk (below_step (by repeat (first | (with_reducible first | exact HB.out | apply below_alloc | apply pw_below_drewN | apply below_drew1 | refine below_set ?_ GE214.out) | exact HB.out)) hb); clear HO213; clear BK214; clear HB; have HO213 := n0_; have HO217 := n1_; have BK214 := n2_; have HB := n3_; clear n0_ n1_ n2_ n3_; (try clear hb); (try clear hb2); (try clear hk); (try clear hi); (try clear ho0)))
            have n0_ := Aside0.mk (Kd.R_drew HO213.out)
            have n1_ := Aside0.mk (Kd.R_drew HO217.out)
            have n2_ := Aside0.mk (blk_drew BK214.out)
            have n3_ := Aside0.mk (below_drew1 HB.out)
            clear HO213
            clear HO217
            clear BK214
            clear HB
            have HO213 := n0_
            have HO217 := n1_
            have BK214 := n2_
            have HB := n3_
            clear n0_ n1_ n2_ n3_
            refine start_ (n := 10) (S := fun w' => w'.cell? ⟨gb214, 0, none⟩ = some (.int .i64 t208) ∧ w'.cell? ⟨gb214, 1, none⟩ = some (.int .i64 t209) ∧ w'.cell? ⟨gb214, 2, none⟩ = some (.int .i64 t210) ∧ w'.cell? ⟨gb214, 3, none⟩ = some (.slice Ao21 t211.length co21)) (ds := []) #[false, false, false, false, false, false, false, false, false, false] (by kernel_rfl) rfl rfl ⟨(blk_cell BK214.out 0).trans rfl, (blk_cell BK214.out 1).trans rfl, (blk_cell BK214.out 2).trans rfl, (blk_cell BK214.out 3).trans rfl⟩ (fun hHeld => ?_); refine with_tabW racewaylaw5_FlowHalves.tab6 racewaylaw5_FlowHalves.bits6 (fun HT_ HW_ => ?_)
            generalize w22.drew = w23 at HO213 HO217 BK214 HB hHeld ⊢
            refine pure_ (i := 1) (N := some 36) (v := ?_) (a' := ?_) #[false, true, false, false, false, false, false, false, false, false] rfl rfl (any_of HT_.out (by kernel_rfl)) (fun _ _ _ h => h) (Or.inl ⟨by rfl, ?_⟩) ?_ ?_
            rotate_left
            · intro w'
              go_simp
              with_reducible rfl
            rotate_left
            · simp only [Act.put, List.setIfInBounds_toArray, List.set_cons_zero, List.set_cons_succ, i64_w, i32_w]
              rfl
            refine pure_ (i := 2) (N := some 37) (v := ?_) (a' := ?_) #[false, true, true, false, false, false, false, false, false, false] rfl rfl (any_of HT_.out (by kernel_rfl)) (fun _ _ _ h => h) (Or.inl ⟨by rfl, ?_⟩) ?_ ?_
            rotate_left
            · intro w'
              go_simp
              with_reducible rfl
            rotate_left
            · simp only [Act.put, List.setIfInBounds_toArray, List.set_cons_zero, List.set_cons_succ, i64_w, i32_w]
              rfl
            refine pure_ (i := 3) (N := some 38) (v := ?_) (a' := ?_) #[false, true, true, true, false, false, false, false, false, false] rfl rfl (any_of HT_.out (by kernel_rfl)) (fun _ _ _ h => h) (Or.inl ⟨by rfl, ?_⟩) ?_ ?_
            rotate_left
            · intro w'
              go_simp
              with_reducible rfl
            rotate_left
            · simp only [Act.put, List.setIfInBounds_toArray, List.set_cons_zero, List.set_cons_succ, i64_w, i32_w]
              rfl
            refine pure_ (i := 4) (N := some 39) (v := ?_) (a' := ?_) #[false, true, true, true, true, false, false, false, false, false] rfl rfl (any_of HT_.out (by kernel_rfl)) (fun _ _ _ h => h) (Or.inl ⟨by rfl, ?_⟩) ?_ ?_
            rotate_left
            · intro w'
              go_simp
              with_reducible rfl
            rotate_left
            · simp only [Act.put, List.setIfInBounds_toArray, List.set_cons_zero, List.set_cons_succ, i64_w, i32_w]
              rfl
            refine take_ (i := 0) (N := some 35) (v := ?_) (a' := ?_) #[true, true, true, true, true, false, false, false, false, false] rfl rfl (take_ofW HT_.out HW_.out (by kernel_rfl)) (fun _ _ _ h => h) (Or.inl ⟨by rfl, ?_⟩) hHeld ?_ ?_
            rotate_left
            · rintro w' ⟨s0, s1, s2, s3⟩
              go_simp
              with_reducible rfl
            rotate_left
            · simp only [Act.put, List.setIfInBounds_toArray, List.set_cons_zero, List.set_cons_succ, i64_w, i32_w]
              rfl
            refine one_ (i := 5) (N := some 40) #[true, true, true, true, true, true, false, false, false, false] rfl rfl (one_of HT_.out (by kernel_rfl)) (by decide) (fun K hK => ?_)
            refine goes_ Try.func28 (by kernel_rfl) rfl #[.int .i64 a4, .int .i64 5] (by rfl) rfl rfl (by (try simp only [List.map_toArray, List.map_cons, List.map_nil]); first | done | rfl | (simp only [List.length_drop, List.length_take]; rfl)) ?_
            with_reducible refine (racewaylaw5_pick.calls a4 5 t218 _ A10.out).mono ?_
            rintro e w' ⟨rfl, ⟨nd, rfl⟩⟩
            refine ⟨_, rfl, ?_⟩
            obtain ⟨i024, hi024, _, hsz24, _⟩ := info_parts info3
            obtain ⟨hcut24, hA24, hC24⟩ := print_take_of (P := Try.prog) (Value.int .i64) 0 37 3 .i64 Try.underlying37 hi024 hsz24 A3 c3 l3 (ji11) (of_decide_eq_true (by first | (with_reducible assumption) | assumption)) (of_decide_eq_true (by first | (with_reducible assumption) | assumption)) HC3.out
            have HR219 := Aside0.mk (Kd.C_of_reads (h1 := fun _ => rfl) (hA24 _ (Kd.reads_of_C HR3.out)))
            have HC219 := Aside0.mk hC24
            clear hA24 hC24 hi024 hsz24
            refine hK.out _ _ ⟨(blk_cell BK214.out 0).trans rfl, (blk_cell BK214.out 1).trans rfl, (blk_cell BK214.out 2).trans rfl, (blk_cell BK214.out 3).trans rfl⟩ (fun hHeld => ?_)
            clear hK K
            refine norm_ (a' := ?_) ?_ ?_
            rotate_left
            · show Act.put _ (some 40) _ = _
              simp only [Act.put, List.setIfInBounds_toArray, List.set_cons_zero, List.set_cons_succ, i64_w, i32_w]
              rfl
            refine pure_ (i := 6) (N := some 41) (v := ?_) (a' := ?_) #[true, true, true, true, true, true, true, false, false, false] rfl rfl (any_of HT_.out (by kernel_rfl)) (fun _ _ _ h => h) (Or.inl ⟨by rfl, ?_⟩) ?_ ?_
            rotate_left
            · intro w'
              go_simp
              with_reducible rfl
            rotate_left
            · simp only [Act.put, List.setIfInBounds_toArray, List.set_cons_zero, List.set_cons_succ, i64_w, i32_w]
              rfl
            refine pure_ (i := 7) (N := some 42) (v := ?_) (a' := ?_) #[true, true, true, true, true, true, true, true, false, false] rfl rfl (any_of HT_.out (by kernel_rfl)) (fun _ _ _ h => h) (Or.inl ⟨by rfl, ?_⟩) ?_ ?_
            rotate_left
            · intro w'
              go_simp
              with_reducible rfl
            rotate_left
            · simp only [Act.put, List.setIfInBounds_toArray, List.set_cons_zero, List.set_cons_succ, i64_w, i32_w]
              rfl
            refine one_ (i := 8) (N := some 43) #[true, true, true, true, true, true, true, true, true, false] rfl rfl (one_of HT_.out (by kernel_rfl)) (by decide) (fun K hK => ?_)
            refine goes_ Try.func26 (by kernel_rfl) rfl #[.agg #[.int .i64 t208, .int .i64 t209, .int .i64 t210, .slice Ao21 t211.length co21], .slice A3 (l3.take ((ji11) : Int).toNat).length c3] (by rfl) rfl rfl (by (try simp only [List.map_toArray, List.map_cons, List.map_nil]); first | done | (rw [show (l3.take ((ji11) : Int).toNat).length = (ji11).toNat from (by rw [List.length_take]; have h_ : ((ji11) : Int) ≤ (l3.length : Int) := of_decide_eq_true (by first | (with_reducible assumption) | assumption); omega)] <;> rfl) | (simp only [hji11]; rfl) | rfl | (simp only [List.length_drop, List.length_take]; rfl)) ?_
            with_reducible refine (racewaylaw5_routed.calls k t208 t209 t210 _ _ t211 _ _ (l3.take ((ji11) : Int).toNat) t220 _ ?side1 ?side2 ?side3 ?side4 A14.out).mono ?_
            (case side1 => repeat (first | exact (Kd.R_reads' HO213.out).2.2 | (with_reducible refine Kd.C_alloc ?_ _) | (with_reducible refine Kd.C_drewN ?_ _) | (with_reducible refine Kd.C_drew ?_)))
            (case side2 => exact (Kd.R_reads' HO213.out).2.1)
            (case side3 => repeat (first | exact (Kd.C_below HR219.out (by repeat (first | (with_reducible first | exact HB.out | apply below_alloc | apply pw_below_drewN | apply below_drew1 | refine below_set ?_ GE214.out) | exact HB.out))) | (with_reducible refine Kd.C_alloc ?_ _) | (with_reducible refine Kd.C_drewN ?_ _) | (with_reducible refine Kd.C_drew ?_)))
            (case side4 => exact HC219.out)
            rintro e w25 ⟨v221, rfl, ho0, hb⟩
            refine ⟨_, rfl, ?_⟩
            have n0_ := Aside0.mk (Kd.R_below (by (with_reducible repeat (first | apply Kd.R_alloc | apply Kd.R_drewN | apply Kd.R_drew)); exact HO213.out) hb)
            have n1_ := Aside0.mk (Kd.R_elder' (by (with_reducible repeat (first | apply Kd.R_alloc | apply Kd.R_drewN | apply Kd.R_drew)); exact HO217.out) (Kd.R_base ho0) hb)
            have n2_ := Aside0.mk (Kd.R_lower (Kd.R_new' ho0 (Kd.R_lt (by (with_reducible repeat (first | apply Kd.R_alloc | apply Kd.R_drewN | apply Kd.R_drew)); exact HO217.out))) (below_size (by repeat (first | (with_reducible first | exact HB.out | apply below_alloc | apply pw_below_drewN | apply below_drew1 | refine below_set ?_ GE214.out) | exact HB.out))))
            have n3_ := Aside0.mk (blk_below (g := gb214) (o := .cells #[.int .i64 t208, .int .i64 t209, .int .i64 t210, .slice Ao21 t211.length co21] 26 (0, 0)) (by (with_reducible repeat (first | refine blk_drewN ?_ _ | refine blk_drew ?_ | refine blk_alloc ?_ _)); exact BK214.out) hb)
            have n4_ := Aside0.mk (below_step (by repeat (first | (with_reducible first | exact HB.out | apply below_alloc | apply pw_below_drewN | apply below_drew1 | refine below_set ?_ GE214.out) | exact HB.out)) hb)
            clear HO213
            clear HO217
            clear BK214
            clear HB
            have HO213 := n0_
            have HO217 := n1_
            have HO222 := n2_
            have BK214 := n3_
            have HB := n4_
            clear n0_ n1_ n2_ n3_ n4_
            (try clear hb)
            (try clear hb2)
            (try clear hk)
            (try clear hi)
            (try clear ho0)
            refine hK.out _ _ ⟨(blk_cell BK214.out 0).trans rfl, (blk_cell BK214.out 1).trans rfl, (blk_cell BK214.out 2).trans rfl, (blk_cell BK214.out 3).trans rfl⟩ (fun hHeld => ?_)
            clear hK K
            refine norm_ (a' := ?_) ?_ ?_
            rotate_left
            · show Act.put _ (some 43) _ = _
              simp only [Act.put, List.setIfInBounds_toArray, List.set_cons_zero, List.set_cons_succ, i64_w, i32_w]
              rfl
            refine pure_ (i := 9) (N := some 14) (v := ?_) (a' := ?_) #[true, true, true, true, true, true, true, true, true, true] rfl rfl (any_of HT_.out (by kernel_rfl)) (fun _ _ _ h => h) (Or.inl ⟨by rfl, ?_⟩) ?_ ?_
            rotate_left
            · intro w'
              go_simp
              with_reducible rfl
            rotate_left
            · simp only [Act.put, List.setIfInBounds_toArray, List.set_cons_zero, List.set_cons_succ, i64_w, i32_w]
              rfl
            refine done_ (done_of HT_.out (by kernel_rfl)) ?_
            obtain ⟨Ao26, co26, eo26⟩ := Kd.R_slice HO217.out
            subst eo26
            try go_wp2_with (first | ((with_reducible refine gate_dst (N := 46) rfl ?_); refine Kd.R_make (Kd.int .i64) _ 2 rfl (N := 46) rfl 47 _ _ rfl (t215.length : Int) rfl rfl Try.underlying47 (.int .i64 0) 8 info2 rfl (by decide) (by omega) 0 (ok := fun _ => True) (okp := fun _ => True) rfl (fun _ hk => hk) trivial (of_decide_eq_true (by first | (with_reducible assumption) | assumption)) (Nat.le_trans (Nat.mul_le_mul_right _ (of_decide_eq_true (by first | (with_reducible assumption) | assumption) : (t215.length : Int).toNat ≤ 35184372088832)) (by omega)) (Below.refl _ _) (Nat.le_refl _) ?_; intro v224 w27 ho28 hb hg_ hnew_; clear hg_ hnew_; (first | rw [← Ny223.out] at ho28 | (simp only [Int.reduceToNat] at ho28; rw [← Ny223.out] at ho28)); have n0_ := Aside0.mk (Kd.R_below (by (with_reducible repeat (first | apply Kd.R_alloc | apply Kd.R_drewN | apply Kd.R_drew)); exact HO213.out) hb); have n1_ := Aside0.mk (Kd.R_elder' (by (with_reducible repeat (first | apply Kd.R_alloc | apply Kd.R_drewN | apply Kd.R_drew)); exact HO217.out) (Kd.R_base ho28) hb); have n2_ := Aside0.mk (Kd.R_elder' (by (with_reducible repeat (first | apply Kd.R_alloc | apply Kd.R_drewN | apply Kd.R_drew)); exact HO222.out) (Kd.R_base ho28) hb); have n3_ := Aside0.mk (Kd.R_lower (Kd.R_new' (Kd.R_new' ho28 (Kd.R_lt (by (with_reducible repeat (first | apply Kd.R_alloc | apply Kd.R_drewN | apply Kd.R_drew)); exact HO217.out))) (Kd.R_lt (by (with_reducible repeat (first | apply Kd.R_alloc | apply Kd.R_drewN | apply Kd.R_drew)); exact HO222.out))) (below_size (by repeat (first | (with_reducible first | exact HB.out | apply below_alloc | apply pw_below_drewN | apply below_drew1 | refine below_set ?_ GE214.out) | exact HB.out)))); have n4_ := Aside0.mk (blk_below (g := gb214) (o := .cells #[.int .i64 t208, .int .i64 t209, .int .i64 t210, .slice Ao21 t211.length co21] 26 (0, 0)) (by (with_reducible repeat (first | refine blk_drewN ?_ _ | refine blk_drew ?_ | refine blk_alloc ?_ _)); exact BK214.out) hb); have n5_ := Aside0.mk (below_step (by repeat (first | (with_reducible first | exact HB.out | apply below_alloc | apply pw_below_drewN | apply below_drew1 | refine below_set ?_ GE214.out) | exact HB.out)) hb); clear HO213; clear HO217; clear HO222; clear BK214; clear HB; have HO213 := n0_; have HO217 := n1_; have HO222 := n2_; have HO225 := n3_; have BK214 := n4_; have HB := n5_; clear n0_ n1_ n2_ n3_ n4_ n5_; clear hb ho28))
            go_loopg [16] k (fun kq v16 w' => ∃ (x15_1 : List Int) (x16_1 : Int), v16 = .int .i64 x16_1 ∧ Aside0 (racewaylaw5_FlowHalves.l0 kq t215 t220 x15_1 x16_1 t208 t209 t210 t211 = some r) ∧ Aside0 (kq ≤ k) ∧ Aside0 (Kd.R (Kd.int .i64) 2 w' w.heap.size (fun k_ => some k_ ≠ (v221 : Value).ownBlock ∧ some k_ ≠ (v224 : Value).ownBlock) (.slice Ao26 t215.length co26) t215) ∧ Aside0 (Kd.R (Kd.int .i64) 2 w' w.heap.size (fun k_ => some k_ ≠ ((.slice Ao26 t215.length co26) : Value).ownBlock ∧ some k_ ≠ (v224 : Value).ownBlock) v221 t220) ∧ Aside0 (Kd.R (Kd.int .i64) 2 w' w.heap.size (fun k_ => some k_ ≠ ((.slice Ao26 t215.length co26) : Value).ownBlock ∧ some k_ ≠ (v221 : Value).ownBlock) v224 x15_1) ∧ Aside0 (Kd.R k28 28 w' w.heap.size (fun _ => True) (.slice Ao21 t211.length co21) t211) ∧ Aside0 (w'.heap[gb214]? = some (.cells #[.int .i64 t208, .int .i64 t209, .int .i64 t210, (.slice Ao21 t211.length co21)] 26 (0, 0))) ∧ Aside0 (Below w.heap.size w w'))
            case atStart => exact ⟨(y223), (0), (by first | rfl | (simp; done) | (simp [*]; done)), H', ⟨Nat.le_refl _⟩, ⟨by (with_reducible repeat (first | apply Kd.R_alloc | apply Kd.R_drewN | apply Kd.R_drew)); exact Kd.R_mono HO217.out (fun _ hk => ⟨hk.1.2, hk.2⟩)⟩, ⟨by (with_reducible repeat (first | apply Kd.R_alloc | apply Kd.R_drewN | apply Kd.R_drew)); exact Kd.R_mono HO222.out (fun _ hk => ⟨hk.1.2, hk.2⟩)⟩, ⟨by (with_reducible repeat (first | apply Kd.R_alloc | apply Kd.R_drewN | apply Kd.R_drew)); exact Kd.R_mono HO225.out (fun _ hk => ⟨hk.1.2, hk.2⟩)⟩, ⟨by (with_reducible repeat (first | apply Kd.R_alloc | apply Kd.R_drewN | apply Kd.R_drew)); exact HO213.out⟩, ⟨by (with_reducible repeat (first | refine blk_drewN ?_ _ | refine blk_drew ?_ | refine blk_alloc ?_ _)); exact BK214.out⟩, ⟨by repeat (first | (with_reducible first | exact HB.out | apply below_alloc | apply pw_below_drewN | apply below_drew1 | refine below_set ?_ GE214.out) | exact HB.out)⟩⟩
            case round =>
              clear H'
              try clear c1
              try clear c2
              try clear p2
              try clear c3
              try clear c7
              try clear c12
              try clear c12b0
              try clear c12b1
              try clear c13
              try clear c13b0
              try clear c13b1
              try clear c15
              try clear c15b0
              try clear c15b1
              try clear c16
              try clear c16b0
              try clear c16b1
              try clear c24
              try clear c25
              try clear c26
              try clear c28
              try clear hcz20_0
              try clear hcz20_1
              try clear hcz20_2
              try clear hcz20_3
              try clear hfz20_0
              try clear hfz20_1
              try clear hfz20_2
              try clear hfz20_3
              obtain ⟨x15_1, x16_1, rfl, HA, HK1, HO_13, HO_14, HO_15, HO_215003, BK214, HB⟩ := hrel
              cases gk with
              | zero => exact absurd HA.out (by simp [racewaylaw5_FlowHalves.l0])
              | succ k1 =>
                have H := HA.out
                clear HA
                simp only [racewaylaw5_FlowHalves.l0] at H
                by_cases c29 : x16_1 < (t215.length : Int)
                · rw [if_pos c29] at H
                  have c29b0 : decide (x16_1 < (t215.length : Int)) = true := decide_eq_true c29
                  clear c29
                  by_cases c30 : 0 ≤ x16_1
                  · rw [if_pos c30] at H
                    have c30b0 : decide (0 ≤ x16_1) = true := decide_eq_true c30
                    clear c30
                    by_cases c31 : x16_1 < (t220.length : Int)
                    · rw [if_pos c31] at H
                      have c31b0 : decide (x16_1 < (t220.length : Int)) = true := decide_eq_true c31
                      clear c31
                      by_cases c32 : x16_1 < (x15_1.length : Int)
                      · rw [if_pos c32] at H
                        have c32b0 : decide (x16_1 < (x15_1.length : Int)) = true := decide_eq_true c32
                        clear c32
                        obtain ⟨y228, hy228⟩ : ∃ y_ : List Int, y_ = (x15_1.set (x16_1 : Int).toNat (wrap64 ((rd t215 x16_1) - (rd t220 x16_1)))) := ⟨_, rfl⟩
                        replace H : (if (wrap64 ((rd t215 x16_1) - (rd t220 x16_1))) < 0 then (some false) else (racewaylaw5_FlowHalves.l0 k1 t215 t220 y228 (wrap64 (x16_1 + 1)) t208 t209 t210 t211)) = some r := by first | (rw [hy228]; with_reducible exact H) | (have H2_ := (Option.bind_some _ _).symm.trans H; rw [hy228]; with_reducible exact H2_) | (have H2_ := (Option.bind_some _ _).symm.trans H; with_reducible exact H2_) | with_reducible exact H | (rw [hy228]; exact H) | exact H
                        have Ny228 := Aside0.mk hy228
                        clear hy228
                        by_cases c35 : (wrap64 ((rd t215 x16_1) - (rd t220 x16_1))) < 0
                        · rw [if_pos c35] at H
                          have c35b0 : decide ((wrap64 ((rd t215 x16_1) - (rd t220 x16_1))) < 0) = true := decide_eq_true c35
                          clear c35
                          exact absurd ((Option.some.inj H).trans hrT_.out) (by simp)
                        · rw [if_neg c35] at H
                          have c35b0 : decide ((wrap64 ((rd t215 x16_1) - (rd t220 x16_1))) < 0) = false := decide_eq_false c35
                          clear c35
                          have H' := Aside0.mk H
                          clear H
                          try go_wp2
                          have n0_ := Aside0.mk (Kd.R_drew HO_13.out)
                          have n1_ := Aside0.mk (Kd.R_drew HO_14.out)
                          have n2_ := Aside0.mk (Kd.R_drew HO_15.out)
                          have n3_ := Aside0.mk (Kd.R_drew HO_215003.out)
                          have n4_ := Aside0.mk (blk_drew BK214.out)
                          have n5_ := Aside0.mk (below_drew1 HB.out)
                          clear HO_13
                          clear HO_14
                          clear HO_15
                          clear HO_215003
                          clear BK214
                          clear HB
                          have HO_13 := n0_
                          have HO_14 := n1_
                          have HO_15 := n2_
                          have HO_215003 := n3_
                          have BK214 := n4_
                          have HB := n5_
                          clear n0_ n1_ n2_ n3_ n4_ n5_
                          have p226 : 0 ≤ (x16_1 : Int) := of_decide_eq_true (by first | (with_reducible assumption) | assumption)
                          have q226 : x16_1 < (t215.length : Int) := of_decide_eq_true (by first | (with_reducible assumption) | assumption)
                          obtain ⟨ad226, e226, hx226_0⟩ := Kd.at_int (Kd.R_reads' HO_13.out).2.2 x16_1 p226 q226
                          cases e226
                          replace p226 := eq_true p226
                          replace q226 := eq_true q226
                          obtain ⟨Ao37, co37, eo37⟩ := Kd.R_slice HO_14.out
                          (first | subst eo37 | (injection eo37 with f1_ f2_ f3_; have f4_ := f1_.symm; have f5_ := f3_.symm; clear f1_ f2_ f3_; subst f4_; subst f5_))
                          have p227 : 0 ≤ (x16_1 : Int) := of_decide_eq_true (by first | (with_reducible assumption) | assumption)
                          have q227 : x16_1 < (t220.length : Int) := of_decide_eq_true (by first | (with_reducible assumption) | assumption)
                          obtain ⟨ad227, e227, hx227_0⟩ := Kd.at_int (Kd.R_reads' HO_14.out).2.2 x16_1 p227 q227
                          cases e227
                          replace p227 := eq_true p227
                          replace q227 := eq_true q227
                          have p33 : 0 ≤ (x16_1 : Int) := of_decide_eq_true (by first | (with_reducible assumption) | assumption)
                          have q33 : (x16_1 : Int) < ((x15_1.length : Int) : Int) := of_decide_eq_true (by first | (with_reducible assumption) | assumption)
                          obtain ⟨go33, co33, eo33, gb33, gl33, cl33, HG33⟩ := Kd.R_form HO_15.out (by omega)
                          (first | cases eo33 | (injection eo33 with ea_ en_ ec_; (first | subst ea_ | (injection ea_ with ea_; subst ea_)); subst ec_; clear en_))
                          have GB33 := Aside0.mk gb33
                          have GG33 := Aside0.mk HG33
                          clear gb33 gl33 HG33
                          obtain ⟨hx33_0, hf33_0⟩ := Kd.R_celln 0 HO_15.out (x16_1 : Int) p33 q33
                          replace p33 := eq_true p33
                          replace q33 := eq_true q33
                          have HP38 := Kd.R_putn HO_15.out (x16_1 : Int) (wrap64 ((rd t215 x16_1) - (rd t220 x16_1)))
                          rw [← Ny228.out] at HP38
                          have HQ38 := Aside0.mk HP38
                          clear HP38
                          refine start_ (n := 13) (S := fun w' => w'.cell? (ad226.add (x16_1).toNat) = some (.int .i64 (rd t215 x16_1)) ∧ w'.cell? (ad227.add (x16_1).toNat) = some (.int .i64 (rd t220 x16_1))) (ds := [12]) #[false, false, false, false, false, false, false, false, false, false, false, false, false] (by kernel_rfl) rfl rfl ⟨hx226_0, hx227_0⟩ (fun hHeld => ?_); refine with_tabW racewaylaw5_FlowHalves.tab11 racewaylaw5_FlowHalves.bits11 (fun HT_ HW_ => ?_)
                          generalize wr.drew = w36 at HO_13 HO_14 HO_15 HO_215003 BK214 HB GG33 HQ38 hf33_0 hx226_0 hx227_0 hx33_0 hHeld ⊢
                          refine pure_ (i := 0) (N := some 53) (v := ?_) (a' := ?_) #[true, false, false, false, false, false, false, false, false, false, false, false, false] rfl rfl (any_of HT_.out (by kernel_rfl)) (fun _ _ _ h => h) (Or.inl ⟨by rfl, ?_⟩) ?_ ?_
                          rotate_left
                          · intro w'
                            go_simp
                            with_reducible rfl
                          rotate_left
                          · simp only [Act.put, List.setIfInBounds_toArray, List.set_cons_zero, List.set_cons_succ, i64_w, i32_w]
                            rfl
                          refine pure_ (i := 1) (N := some 54) (v := ?_) (a' := ?_) #[true, true, false, false, false, false, false, false, false, false, false, false, false] rfl rfl (any_of HT_.out (by kernel_rfl)) (fun _ _ _ h => h) (Or.inl ⟨by rfl, ?_⟩) ?_ ?_
                          rotate_left
                          · intro w'
                            go_simp
                            with_reducible rfl
                          rotate_left
                          · simp only [Act.put, List.setIfInBounds_toArray, List.set_cons_zero, List.set_cons_succ, i64_w, i32_w]
                            rfl
                          refine pure_ (i := 2) (N := some 55) (v := ?_) (a' := ?_) #[true, true, true, false, false, false, false, false, false, false, false, false, false] rfl rfl (any_of HT_.out (by kernel_rfl)) (fun _ _ _ h => h) (Or.inl ⟨by rfl, ?_⟩) ?_ ?_
                          rotate_left
                          · intro w'
                            go_simp
                            with_reducible rfl
                          rotate_left
                          · simp only [Act.put, List.setIfInBounds_toArray, List.set_cons_zero, List.set_cons_succ, i64_w, i32_w]
                            rfl
                          refine pure_ (i := 3) (N := some 56) (v := ?_) (a' := ?_) #[true, true, true, true, false, false, false, false, false, false, false, false, false] rfl rfl (any_of HT_.out (by kernel_rfl)) (fun _ _ _ h => h) (Or.inl ⟨by rfl, ?_⟩) ?_ ?_
                          rotate_left
                          · intro w'
                            go_simp
                            with_reducible rfl
                          rotate_left
                          · simp only [Act.put, List.setIfInBounds_toArray, List.set_cons_zero, List.set_cons_succ, i64_w, i32_w]
                            rfl
                          refine pure_ (i := 4) (N := some 57) (v := ?_) (a' := ?_) #[true, true, true, true, true, false, false, false, false, false, false, false, false] rfl rfl (any_of HT_.out (by kernel_rfl)) (fun _ _ _ h => h) (Or.inl ⟨by rfl, ?_⟩) ?_ ?_
                          rotate_left
                          · intro w'
                            go_simp
                            with_reducible rfl
                          rotate_left
                          · simp only [Act.put, List.setIfInBounds_toArray, List.set_cons_zero, List.set_cons_succ, i64_w, i32_w]
                            rfl
                          refine pure_ (i := 6) (N := some 59) (v := ?_) (a' := ?_) #[true, true, true, true, true, false, true, false, false, false, false, false, false] rfl rfl (any_of HT_.out (by kernel_rfl)) (fun _ _ _ h => h) (Or.inl ⟨by rfl, ?_⟩) ?_ ?_
                          rotate_left
                          · intro w'
                            go_simp
                            with_reducible rfl
                          rotate_left
                          · simp only [Act.put, List.setIfInBounds_toArray, List.set_cons_zero, List.set_cons_succ, i64_w, i32_w]
                            rfl
                          refine pure_ (i := 7) (N := some 60) (v := ?_) (a' := ?_) #[true, true, true, true, true, false, true, true, false, false, false, false, false] rfl rfl (any_of HT_.out (by kernel_rfl)) (fun _ _ _ h => h) (Or.inl ⟨by rfl, ?_⟩) ?_ ?_
                          rotate_left
                          · intro w'
                            go_simp
                            with_reducible rfl
                          rotate_left
                          · simp only [Act.put, List.setIfInBounds_toArray, List.set_cons_zero, List.set_cons_succ, i64_w, i32_w]
                            rfl
                          refine pure_ (i := 8) (N := some 61) (v := ?_) (a' := ?_) #[true, true, true, true, true, false, true, true, true, false, false, false, false] rfl rfl (any_of HT_.out (by kernel_rfl)) (fun _ _ _ h => h) (Or.inl ⟨by rfl, ?_⟩) ?_ ?_
                          rotate_left
                          · intro w'
                            go_simp
                            with_reducible rfl
                          rotate_left
                          · simp only [Act.put, List.setIfInBounds_toArray, List.set_cons_zero, List.set_cons_succ, i64_w, i32_w]
                            rfl
                          refine take_ (i := 5) (N := some 58) (v := ?_) (a' := ?_) #[true, true, true, true, true, true, true, true, true, false, false, false, false] rfl rfl (take_ofW HT_.out HW_.out (by kernel_rfl)) (fun _ _ _ h => h) (Or.inl ⟨by rfl, ?_⟩) hHeld ?_ ?_
                          rotate_left
                          · rintro w' ⟨s0, s1⟩
                            go_simp
                            with_reducible rfl
                          rotate_left
                          · simp only [Act.put, List.setIfInBounds_toArray, List.set_cons_zero, List.set_cons_succ, i64_w, i32_w]
                            rfl
                          refine take_ (i := 9) (N := some 62) (v := ?_) (a' := ?_) #[true, true, true, true, true, true, true, true, true, true, false, false, false] rfl rfl (take_ofW HT_.out HW_.out (by kernel_rfl)) (fun _ _ _ h => h) (Or.inl ⟨by rfl, ?_⟩) hHeld ?_ ?_
                          rotate_left
                          · rintro w' ⟨s0, s1⟩
                            go_simp
                            with_reducible rfl
                          rotate_left
                          · simp only [Act.put, List.setIfInBounds_toArray, List.set_cons_zero, List.set_cons_succ, i64_w, i32_w]
                            rfl
                          refine pure_ (i := 10) (N := some 63) (v := ?_) (a' := ?_) #[true, true, true, true, true, true, true, true, true, true, true, false, false] rfl rfl (any_of HT_.out (by kernel_rfl)) (fun _ _ _ h => h) (Or.inl ⟨by rfl, ?_⟩) ?_ ?_
                          rotate_left
                          · intro w'
                            go_simp
                            with_reducible rfl
                          rotate_left
                          · simp only [Act.put, List.setIfInBounds_toArray, List.set_cons_zero, List.set_cons_succ, i64_w, i32_w]
                            rfl
                          refine pure_ (i := 11) (N := some 64) (v := ?_) (a' := ?_) #[true, true, true, true, true, true, true, true, true, true, true, true, false] rfl rfl (any_of HT_.out (by kernel_rfl)) (fun _ _ _ h => h) (Or.inl ⟨by rfl, ?_⟩) ?_ ?_
                          rotate_left
                          · intro w'
                            go_simp
                            with_reducible rfl
                          rotate_left
                          · simp only [Act.put, List.setIfInBounds_toArray, List.set_cons_zero, List.set_cons_succ, i64_w, i32_w]
                            rfl
                          refine last_ (i := 12) (N := none) #[true, true, true, true, true, true, true, true, true, true, true, true, true] rfl rfl (one_of HT_.out (by kernel_rfl)) (by decide) (fun K hK => ?_)
                          refine skip_ (w1 := ?_) (by rfl) rfl ?_ ?_
                          rotate_left
                          · go_simp
                            rfl
                          refine hK.out _ _ ?_
                          clear hK K
                          refine done_ (done_of HT_.out (by kernel_rfl)) ?_
                          have p34 : 0 ≤ (x16_1 : Int) := of_decide_eq_true (by first | (with_reducible assumption) | assumption)
                          have q34 : (x16_1 : Int) < ((x15_1.length : Int) : Int) := of_decide_eq_true (by first | (with_reducible assumption) | assumption)
                          replace p34 := eq_true p34
                          replace q34 := eq_true q34
                          try go_wp2
                          go_roundg k1
                          case measure => have := HK1.out; omega
                          case rel => exact ⟨(y228), (wrap64 (x16_1 + 1)), (by first | rfl | (simp; done) | (simp [*]; done)), H', ⟨by have := HK1.out; omega⟩, ⟨by (with_reducible repeat (first | apply Kd.R_alloc | apply Kd.R_drewN | apply Kd.R_drew)); exact Kd.R_mono (Kd.R_far (p := ⟨go33, (x16_1 : Int).toNat, none⟩) (Kd.R_mono HO_13.out (fun k_ hk => (⟨hk, fun e_ => hk.2 (by rw [e_]; rfl)⟩ : _ ∧ k_ ≠ go33))) (fun _ hk => hk.2) (.int .i64 (wrap64 ((rd t215 x16_1) - (rd t220 x16_1))))) (fun _ hk => ⟨hk.1.1, hk.1.2⟩)⟩, ⟨by (with_reducible repeat (first | apply Kd.R_alloc | apply Kd.R_drewN | apply Kd.R_drew)); exact Kd.R_mono (Kd.R_far (p := ⟨go33, (x16_1 : Int).toNat, none⟩) (Kd.R_mono HO_14.out (fun k_ hk => (⟨hk, fun e_ => hk.2 (by rw [e_]; rfl)⟩ : _ ∧ k_ ≠ go33))) (fun _ hk => hk.2) (.int .i64 (wrap64 ((rd t215 x16_1) - (rd t220 x16_1))))) (fun _ hk => ⟨hk.1.1, hk.1.2⟩)⟩, ⟨by (with_reducible repeat (first | apply Kd.R_alloc | apply Kd.R_drewN | apply Kd.R_drew)); exact HQ38.out⟩, ⟨by (with_reducible repeat (first | apply Kd.R_alloc | apply Kd.R_drewN | apply Kd.R_drew)); exact Kd.R_mono (Kd.R_far (p := ⟨go33, (x16_1 : Int).toNat, none⟩) (Kd.R_types HO_215003.out GG33.out (by decide)) (fun _ hk => hk.2) (.int .i64 (wrap64 ((rd t215 x16_1) - (rd t220 x16_1))))) (fun _ hk => trivial)⟩, ⟨by (with_reducible repeat (first | refine blk_drewN ?_ _ | refine blk_drew ?_ | refine blk_alloc ?_ _)); refine blk_far ?_ (by have h_ := Kd.R_ne HO_15.out BK214.out (by decide); intro e_; exact h_ (by rw [e_]; rfl)) _; (with_reducible repeat (first | refine blk_drewN ?_ _ | refine blk_drew ?_ | refine blk_alloc ?_ _)); exact BK214.out⟩, ⟨by repeat (first | (with_reducible first | exact HB.out | apply below_alloc | apply pw_below_drewN | apply below_drew1 | refine below_set ?_ GB33.out | refine below_set ?_ GE214.out) | exact HB.out)⟩⟩
                      · rw [if_neg c32] at H
                        exact absurd H (by simp)
                    · rw [if_neg c31] at H
                      exact absurd H (by simp)
                  · rw [if_neg c30] at H
                    exact absurd H (by simp)
                · rw [if_neg c29] at H
                  have c29b0 : decide (x16_1 < (t215.length : Int)) = false := decide_eq_false c29
                  clear c29
                  replace H := Option.bind_eq_some_iff.mp H
                  obtain ⟨⟨t230, t233⟩, A390, H⟩ := H
                  replace H : ((flow_Value.f k1 t208 t209 t210 t211 t220).bind fun bt234 => ((flow_Value.f k1 t208 t209 t210 t211 x15_1).bind fun bt236 => ((flow_Value.f k1 t208 t209 t210 t211 t215).bind fun bt238 => (if t233 = 0 then (if bt236.2 = 0 then ((racewayref5_Same.f k1 t230 t215).bind fun t240 => (if t240 = true then (some ((wrap64 (bt234.1 + bt236.1)) == bt238.1)) else (some false))) else (some false)) else (some false))))) = some r := H
                  have A39 := Aside0.mk A390
                  clear A390
                  replace H := Option.bind_eq_some_iff.mp H
                  obtain ⟨⟨t234, t235⟩, A400, H⟩ := H
                  replace H : ((flow_Value.f k1 t208 t209 t210 t211 x15_1).bind fun bt236 => ((flow_Value.f k1 t208 t209 t210 t211 t215).bind fun bt238 => (if t233 = 0 then (if bt236.2 = 0 then ((racewayref5_Same.f k1 t230 t215).bind fun t240 => (if t240 = true then (some ((wrap64 (t234 + bt236.1)) == bt238.1)) else (some false))) else (some false)) else (some false)))) = some r := H
                  have A40 := Aside0.mk A400
                  clear A400
                  replace H := Option.bind_eq_some_iff.mp H
                  obtain ⟨⟨t236, t237⟩, A410, H⟩ := H
                  replace H : ((flow_Value.f k1 t208 t209 t210 t211 t215).bind fun bt238 => (if t233 = 0 then (if t237 = 0 then ((racewayref5_Same.f k1 t230 t215).bind fun t240 => (if t240 = true then (some ((wrap64 (t234 + t236)) == bt238.1)) else (some false))) else (some false)) else (some false))) = some r := H
                  have A41 := Aside0.mk A410
                  clear A410
                  replace H := Option.bind_eq_some_iff.mp H
                  obtain ⟨⟨t238, t239⟩, A420, H⟩ := H
                  replace H : (if t233 = 0 then (if t237 = 0 then ((racewayref5_Same.f k1 t230 t215).bind fun t240 => (if t240 = true then (some ((wrap64 (t234 + t236)) == t238)) else (some false))) else (some false)) else (some false)) = some r := H
                  have A42 := Aside0.mk A420
                  clear A420
                  by_cases c43 : t233 = 0
                  · rw [if_pos c43] at H
                    have c43b0 : (t233 == 0) = true := beq_iff_eq.mpr c43
                    have c43b1 : (t233 != 0) = false := bne_eq_false_iff_eq.mpr c43
                    clear c43
                    by_cases c44 : t237 = 0
                    · rw [if_pos c44] at H
                      have c44b0 : (t237 == 0) = true := beq_iff_eq.mpr c44
                      have c44b1 : (t237 != 0) = false := bne_eq_false_iff_eq.mpr c44
                      clear c44
                      replace H := Option.bind_eq_some_iff.mp H
                      obtain ⟨t240, A450, H⟩ := H
                      replace H : (if t240 = true then (some ((wrap64 (t234 + t236)) == t238)) else (some false)) = some r := H
                      have A45 := Aside0.mk A450
                      clear A450
                      by_cases c46 : t240 = true
                      · subst c46
                        have H1 : (some ((wrap64 (t234 + t236)) == t238)) = some r := by rw [if_pos rfl] at H; exact H
                        clear H
                        have H := H1
                        clear H1
                        obtain rfl := Option.some.inj H
                        have hcz47_0 : wr.cell? ⟨gb214, 0, none⟩ = some (.int .i64 t208) := (blk_cell BK214.out 0).trans rfl
                        have hcz47_1 : wr.cell? ⟨gb214, 1, none⟩ = some (.int .i64 t209) := (blk_cell BK214.out 1).trans rfl
                        have hcz47_2 : wr.cell? ⟨gb214, 2, none⟩ = some (.int .i64 t210) := (blk_cell BK214.out 2).trans rfl
                        have hcz47_3 : wr.cell? ⟨gb214, 3, none⟩ = some (.slice Ao21 t211.length co21) := (blk_cell BK214.out 3).trans rfl
                        have hfz47_0 := blk_frozen BK214.out 0
                        have hfz47_1 := blk_frozen BK214.out 1
                        have hfz47_2 := blk_frozen BK214.out 2
                        have hfz47_3 := blk_frozen BK214.out 3
                        obtain ⟨Ao48, co48, eo48⟩ := Kd.R_slice HO_14.out
                        subst eo48
                        obtain ⟨Ao49, co49, eo49⟩ := Kd.R_slice HO_15.out
                        subst eo49
                        go_wp2_with (first | ((with_reducible refine gate_callee (f := 30) rfl ?_); refine goesL_ (some 74) rfl rfl Try.func30 (by kernel_rfl) rfl #[.agg #[.int .i64 t208, .int .i64 t209, .int .i64 t210, .slice Ao21 t211.length co21], .slice Ao48 t220.length co48, .slice Ao49 x15_1.length co49] rfl (by (try simp only [List.map_toArray, List.map_cons, List.map_nil]); first | done | rfl | (simp only [List.length_drop, List.length_take]; rfl)) ?_; (with_reducible refine (flow_Add.calls k1 t208 t209 t210 _ _ t211 _ _ t220 _ _ x15_1 t230 t233 _ ?side1 ?side2 ?side3 ?side4 ?side5 ?side6 A39.out).mono ?_); (case side1 => repeat (first | exact (Kd.R_reads' HO_215003.out).2.2 | (with_reducible refine Kd.C_alloc ?_ _) | (with_reducible refine Kd.C_drewN ?_ _) | (with_reducible refine Kd.C_drew ?_))); (case side2 => exact (Kd.R_reads' HO_215003.out).2.1); (case side3 => repeat (first | exact (Kd.R_reads' HO_14.out).2.2 | (with_reducible refine Kd.C_alloc ?_ _) | (with_reducible refine Kd.C_drewN ?_ _) | (with_reducible refine Kd.C_drew ?_))); (case side4 => exact (Kd.R_reads' HO_14.out).2.1); (case side5 => repeat (first | exact (Kd.R_reads' HO_15.out).2.2 | (with_reducible refine Kd.C_alloc ?_ _) | (with_reducible refine Kd.C_drewN ?_ _) | (with_reducible refine Kd.C_drew ?_))); (case side6 => exact (Kd.R_reads' HO_15.out).2.1); rintro e w50 ⟨v231, rfl, ho0, hb⟩; refine ⟨_, rfl, ?_⟩; have n0_ := Aside0.mk (Kd.R_elder' (by (with_reducible repeat (first | apply Kd.R_alloc | apply Kd.R_drewN | apply Kd.R_drew)); exact HO_13.out) (Kd.R_base ho0) hb); have n1_ := Aside0.mk (Kd.R_elder' (by (with_reducible repeat (first | apply Kd.R_alloc | apply Kd.R_drewN | apply Kd.R_drew)); exact HO_14.out) (Kd.R_base ho0) hb); have n2_ := Aside0.mk (Kd.R_elder' (by (with_reducible repeat (first | apply Kd.R_alloc | apply Kd.R_drewN | apply Kd.R_drew)); exact HO_15.out) (Kd.R_base ho0) hb); have n3_ := Aside0.mk (Kd.R_below (by (with_reducible repeat (first | apply Kd.R_alloc | apply Kd.R_drewN | apply Kd.R_drew)); exact HO_215003.out) hb); have n4_ := Aside0.mk (Kd.R_lower (Kd.R_new' (Kd.R_new' (Kd.R_new' ho0 (Kd.R_lt (by (with_reducible repeat (first | apply Kd.R_alloc | apply Kd.R_drewN | apply Kd.R_drew)); exact HO_13.out))) (Kd.R_lt (by (with_reducible repeat (first | apply Kd.R_alloc | apply Kd.R_drewN | apply Kd.R_drew)); exact HO_14.out))) (Kd.R_lt (by (with_reducible repeat (first | apply Kd.R_alloc | apply Kd.R_drewN | apply Kd.R_drew)); exact HO_15.out))) (below_size (by repeat (first | (with_reducible first | exact HB.out | apply below_alloc | apply pw_below_drewN | apply below_drew1 | refine below_set ?_ GE214.out) | exact HB.out)))); have n5_ := Aside0.mk (blk_below (g := gb214) (o := .cells #[.int .i64 t208, .int .i64 t209, .int .i64 t210, .slice Ao21 t211.length co21] 26 (0, 0)) (by (with_reducible repeat (first | refine blk_drewN ?_ _ | refine blk_drew ?_ | refine blk_alloc ?_ _)); exact BK214.out) hb); have n6_ := Aside0.mk (below_step (by repeat (first | (with_reducible first | exact HB.out | apply below_alloc | apply pw_below_drewN | apply below_drew1 | refine below_set ?_ GE214.out) | exact HB.out)) hb); clear HO_13; clear HO_14; clear HO_15; clear HO_215003; clear BK214; clear HB; have HO_13 := n0_; have HO_14 := n1_; have HO_15 := n2_; have HO_215003 := n3_; have HO232 := n4_; have BK214 := n5_; have HB := n6_; clear n0_ n1_ n2_ n3_ n4_ n5_ n6_; (try clear hb); (try clear hb2); (try clear hk); (try clear hi); (try clear ho0); have hcz51_0 : w50.cell? ⟨gb214, 0, none⟩ = some (.int .i64 t208) := (blk_cell BK214.out 0).trans rfl; have hcz51_1 : w50.cell? ⟨gb214, 1, none⟩ = some (.int .i64 t209) := (blk_cell BK214.out 1).trans rfl; have hcz51_2 : w50.cell? ⟨gb214, 2, none⟩ = some (.int .i64 t210) := (blk_cell BK214.out 2).trans rfl; have hcz51_3 : w50.cell? ⟨gb214, 3, none⟩ = some (.slice Ao21 t211.length co21) := (blk_cell BK214.out 3).trans rfl; have hfz51_0 := blk_frozen BK214.out 0; have hfz51_1 := blk_frozen BK214.out 1; have hfz51_2 := blk_frozen BK214.out 2; have hfz51_3 := blk_frozen BK214.out 3) | ((with_reducible refine gate_callee (f := 27) rfl ?_); refine goesL_ (some 80) rfl rfl Try.func27 (by kernel_rfl) rfl #[.agg #[.int .i64 t208, .int .i64 t209, .int .i64 t210, .slice Ao21 t211.length co21], .slice Ao48 t220.length co48] rfl (by (try simp only [List.map_toArray, List.map_cons, List.map_nil]); first | done | rfl | (simp only [List.length_drop, List.length_take]; rfl)) ?_; (with_reducible refine (flow_Value.calls k1 t208 t209 t210 _ _ t211 _ _ t220 t234 t235 _ ?side1 ?side2 ?side3 ?side4 A40.out).mono ?_); (case side1 => repeat (first | exact (Kd.R_reads' HO_215003.out).2.2 | (with_reducible refine Kd.C_alloc ?_ _) | (with_reducible refine Kd.C_drewN ?_ _) | (with_reducible refine Kd.C_drew ?_))); (case side2 => exact (Kd.R_reads' HO_215003.out).2.1); (case side3 => repeat (first | exact (Kd.R_reads' HO_14.out).2.2 | (with_reducible refine Kd.C_alloc ?_ _) | (with_reducible refine Kd.C_drewN ?_ _) | (with_reducible refine Kd.C_drew ?_))); (case side4 => exact (Kd.R_reads' HO_14.out).2.1); rintro e w52 ⟨rfl, hb⟩; refine ⟨_, rfl, ?_⟩; have n0_ := Aside0.mk (Kd.R_below (by (with_reducible repeat (first | apply Kd.R_alloc | apply Kd.R_drewN | apply Kd.R_drew)); exact HO_13.out) hb); have n1_ := Aside0.mk (Kd.R_below (by (with_reducible repeat (first | apply Kd.R_alloc | apply Kd.R_drewN | apply Kd.R_drew)); exact HO_14.out) hb); have n2_ := Aside0.mk (Kd.R_below (by (with_reducible repeat (first | apply Kd.R_alloc | apply Kd.R_drewN | apply Kd.R_drew)); exact HO_15.out) hb); have n3_ := Aside0.mk (Kd.R_below (by (with_reducible repeat (first | apply Kd.R_alloc | apply Kd.R_drewN | apply Kd.R_drew)); exact HO_215003.out) hb); have n4_ := Aside0.mk (Kd.R_below (by (with_reducible repeat (first | apply Kd.R_alloc | apply Kd.R_drewN | apply Kd.R_drew)); exact HO232.out) hb); have n5_ := Aside0.mk (blk_below (g := gb214) (o := .cells #[.int .i64 t208, .int .i64 t209, .int .i64 t210, .slice Ao21 t211.length co21] 26 (0, 0)) (by (with_reducible repeat (first | refine blk_drewN ?_ _ | refine blk_drew ?_ | refine blk_alloc ?_ _)); exact BK214.out) hb); have n6_ := Aside0.mk (below_step (by repeat (first | (with_reducible first | exact HB.out | apply below_alloc | apply pw_below_drewN | apply below_drew1 | refine below_set ?_ GE214.out) | exact HB.out)) hb); clear HO_13; clear HO_14; clear HO_15; clear HO_215003; clear HO232; clear BK214; clear HB; have HO_13 := n0_; have HO_14 := n1_; have HO_15 := n2_; have HO_215003 := n3_; have HO232 := n4_; have BK214 := n5_; have HB := n6_; clear n0_ n1_ n2_ n3_ n4_ n5_ n6_; (try clear hb); (try clear hb2); (try clear hk); (try clear hi); have hcz53_0 : w52.cell? ⟨gb214, 0, none⟩ = some (.int .i64 t208) := (blk_cell BK214.out 0).trans rfl; have hcz53_1 : w52.cell? ⟨gb214, 1, none⟩ = some (.int .i64 t209) := (blk_cell BK214.out 1).trans rfl; have hcz53_2 : w52.cell? ⟨gb214, 2, none⟩ = some (.int .i64 t210) := (blk_cell BK214.out 2).trans rfl; have hcz53_3 : w52.cell? ⟨gb214, 3, none⟩ = some (.slice Ao21 t211.length co21) := (blk_cell BK214.out 3).trans rfl; have hfz53_0 := blk_frozen BK214.out 0; have hfz53_1 := blk_frozen BK214.out 1; have hfz53_2 := blk_frozen BK214.out 2; have hfz53_3 := blk_frozen BK214.out 3) | ((with_reducible refine gate_callee (f := 27) rfl ?_); refine goesL_ (some 86) rfl rfl Try.func27 (by kernel_rfl) rfl #[.agg #[.int .i64 t208, .int .i64 t209, .int .i64 t210, .slice Ao21 t211.length co21], .slice Ao49 x15_1.length co49] rfl (by (try simp only [List.map_toArray, List.map_cons, List.map_nil]); first | done | rfl | (simp only [List.length_drop, List.length_take]; rfl)) ?_; (with_reducible refine (flow_Value.calls k1 t208 t209 t210 _ _ t211 _ _ x15_1 t236 t237 _ ?side1 ?side2 ?side3 ?side4 A41.out).mono ?_); (case side1 => repeat (first | exact (Kd.R_reads' HO_215003.out).2.2 | (with_reducible refine Kd.C_alloc ?_ _) | (with_reducible refine Kd.C_drewN ?_ _) | (with_reducible refine Kd.C_drew ?_))); (case side2 => exact (Kd.R_reads' HO_215003.out).2.1); (case side3 => repeat (first | exact (Kd.R_reads' HO_15.out).2.2 | (with_reducible refine Kd.C_alloc ?_ _) | (with_reducible refine Kd.C_drewN ?_ _) | (with_reducible refine Kd.C_drew ?_))); (case side4 => exact (Kd.R_reads' HO_15.out).2.1); rintro e w54 ⟨rfl, hb⟩; refine ⟨_, rfl, ?_⟩; have n0_ := Aside0.mk (Kd.R_below (by (with_reducible repeat (first | apply Kd.R_alloc | apply Kd.R_drewN | apply Kd.R_drew)); exact HO_13.out) hb); have n1_ := Aside0.mk (Kd.R_below (by (with_reducible repeat (first | apply Kd.R_alloc | apply Kd.R_drewN | apply Kd.R_drew)); exact HO_14.out) hb); have n2_ := Aside0.mk (Kd.R_below (by (with_reducible repeat (first | apply Kd.R_alloc | apply Kd.R_drewN | apply Kd.R_drew)); exact HO_15.out) hb); have n3_ := Aside0.mk (Kd.R_below (by (with_reducible repeat (first | apply Kd.R_alloc | apply Kd.R_drewN | apply Kd.R_drew)); exact HO_215003.out) hb); have n4_ := Aside0.mk (Kd.R_below (by (with_reducible repeat (first | apply Kd.R_alloc | apply Kd.R_drewN | apply Kd.R_drew)); exact HO232.out) hb); have n5_ := Aside0.mk (blk_below (g := gb214) (o := .cells #[.int .i64 t208, .int .i64 t209, .int .i64 t210, .slice Ao21 t211.length co21] 26 (0, 0)) (by (with_reducible repeat (first | refine blk_drewN ?_ _ | refine blk_drew ?_ | refine blk_alloc ?_ _)); exact BK214.out) hb); have n6_ := Aside0.mk (below_step (by repeat (first | (with_reducible first | exact HB.out | apply below_alloc | apply pw_below_drewN | apply below_drew1 | refine below_set ?_ GE214.out) | exact HB.out)) hb); clear HO_13; clear HO_14; clear HO_15; clear HO_215003; clear HO232; clear BK214; clear HB; have HO_13 := n0_; have HO_14 := n1_; have HO_15 := n2_; have HO_215003 := n3_; have HO232 := n4_; have BK214 := n5_; have HB := n6_; clear n0_ n1_ n2_ n3_ n4_ n5_ n6_; (try clear hb); (try clear hb2); (try clear hk); (try clear hi); have hcz55_0 : w54.cell? ⟨gb214, 0, none⟩ = some (.int .i64 t208) := (blk_cell BK214.out 0).trans rfl; have hcz55_1 : w54.cell? ⟨gb214, 1, none⟩ = some (.int .i64 t209) := (blk_cell BK214.out 1).trans rfl; have hcz55_2 : w54.cell? ⟨gb214, 2, none⟩ = some (.int .i64 t210) := (blk_cell BK214.out 2).trans rfl; have hcz55_3 : w54.cell? ⟨gb214, 3, none⟩ = some (.slice Ao21 t211.length co21) := (blk_cell BK214.out 3).trans rfl; have hfz55_0 := blk_frozen BK214.out 0; have hfz55_1 := blk_frozen BK214.out 1; have hfz55_2 := blk_frozen BK214.out 2; have hfz55_3 := blk_frozen BK214.out 3) | ((with_reducible refine gate_callee (f := 27) rfl ?_); refine goesL_ (some 92) rfl rfl Try.func27 (by kernel_rfl) rfl #[.agg #[.int .i64 t208, .int .i64 t209, .int .i64 t210, .slice Ao21 t211.length co21], .slice Ao26 t215.length co26] rfl (by (try simp only [List.map_toArray, List.map_cons, List.map_nil]); first | done | rfl | (simp only [List.length_drop, List.length_take]; rfl)) ?_; (with_reducible refine (flow_Value.calls k1 t208 t209 t210 _ _ t211 _ _ t215 t238 t239 _ ?side1 ?side2 ?side3 ?side4 A42.out).mono ?_); (case side1 => repeat (first | exact (Kd.R_reads' HO_215003.out).2.2 | (with_reducible refine Kd.C_alloc ?_ _) | (with_reducible refine Kd.C_drewN ?_ _) | (with_reducible refine Kd.C_drew ?_))); (case side2 => exact (Kd.R_reads' HO_215003.out).2.1); (case side3 => repeat (first | exact (Kd.R_reads' HO_13.out).2.2 | (with_reducible refine Kd.C_alloc ?_ _) | (with_reducible refine Kd.C_drewN ?_ _) | (with_reducible refine Kd.C_drew ?_))); (case side4 => exact (Kd.R_reads' HO_13.out).2.1); rintro e w56 ⟨rfl, hb⟩; refine ⟨_, rfl, ?_⟩; have n0_ := Aside0.mk (Kd.R_below (by (with_reducible repeat (first | apply Kd.R_alloc | apply Kd.R_drewN | apply Kd.R_drew)); exact HO_13.out) hb); have n1_ := Aside0.mk (Kd.R_below (by (with_reducible repeat (first | apply Kd.R_alloc | apply Kd.R_drewN | apply Kd.R_drew)); exact HO_14.out) hb); have n2_ := Aside0.mk (Kd.R_below (by (with_reducible repeat (first | apply Kd.R_alloc | apply Kd.R_drewN | apply Kd.R_drew)); exact HO_15.out) hb); have n3_ := Aside0.mk (Kd.R_below (by (with_reducible repeat (first | apply Kd.R_alloc | apply Kd.R_drewN | apply Kd.R_drew)); exact HO_215003.out) hb); have n4_ := Aside0.mk (Kd.R_below (by (with_reducible repeat (first | apply Kd.R_alloc | apply Kd.R_drewN | apply Kd.R_drew)); exact HO232.out) hb); have n5_ := Aside0.mk (blk_below (g := gb214) (o := .cells #[.int .i64 t208, .int .i64 t209, .int .i64 t210, .slice Ao21 t211.length co21] 26 (0, 0)) (by (with_reducible repeat (first | refine blk_drewN ?_ _ | refine blk_drew ?_ | refine blk_alloc ?_ _)); exact BK214.out) hb); have n6_ := Aside0.mk (below_step (by repeat (first | (with_reducible first | exact HB.out | apply below_alloc | apply pw_below_drewN | apply below_drew1 | refine below_set ?_ GE214.out) | exact HB.out)) hb); clear HO_13; clear HO_14; clear HO_15; clear HO_215003; clear HO232; clear BK214; clear HB; have HO_13 := n0_; have HO_14 := n1_; have HO_15 := n2_; have HO_215003 := n3_; have HO232 := n4_; have BK214 := n5_; have HB := n6_; clear n0_ n1_ n2_ n3_ n4_ n5_ n6_; (try clear hb); (try clear hb2); (try clear hk); (try clear hi); obtain ⟨Ao57, co57, eo57⟩ := Kd.R_slice HO232.out; subst eo57) | (go_at_call 31; (with_reducible refine (racewayref5_Same.calls k1 _ _ t230 _ _ t215 true _ ?side1 ?side2 ?side3 ?side4 A45.out).mono ?_); (case side1 => repeat (first | exact (Kd.R_reads' HO232.out).2.2 | (with_reducible refine Kd.C_alloc ?_ _) | (with_reducible refine Kd.C_drewN ?_ _) | (with_reducible refine Kd.C_drew ?_))); (case side2 => exact (Kd.R_reads' HO232.out).2.1); (case side3 => repeat (first | exact (Kd.R_reads' HO_13.out).2.2 | (with_reducible refine Kd.C_alloc ?_ _) | (with_reducible refine Kd.C_drewN ?_ _) | (with_reducible refine Kd.C_drew ?_))); (case side4 => exact (Kd.R_reads' HO_13.out).2.1); rintro e w' ⟨rfl, ⟨nd, rfl⟩⟩))
                        go_ret
                        exact ⟨by first | rfl | (simp [errW_none, errW_some] <;> rfl) | (simp only [← hji11]; first | rfl | (simp [errW_none, errW_some] <;> rfl)) | (simp [*, errW_none, errW_some] <;> rfl), by repeat (first | (with_reducible first | exact HB.out | apply below_alloc | apply pw_below_drewN | apply below_drew1 | refine below_set ?_ GE214.out) | exact HB.out)⟩
                      · replace c46 := Bool.eq_false_iff.mpr c46
                        subst c46
                        have H1 : (some false) = some r := by rw [if_neg (show ¬ (false = true) by decide)] at H; exact H
                        clear H
                        have H := H1
                        clear H1
                        exact absurd ((Option.some.inj H).trans hrT_.out) (by simp)
                    · rw [if_neg c44] at H
                      have c44b0 : (t237 == 0) = false := beq_eq_false_iff_ne.mpr c44
                      have c44b1 : (t237 != 0) = true := bne_iff_ne.mpr c44
                      exact absurd ((Option.some.inj H).trans hrT_.out) (by simp)
                  · rw [if_neg c43] at H
                    have c43b0 : (t233 == 0) = false := beq_eq_false_iff_ne.mpr c43
                    have c43b1 : (t233 != 0) = true := bne_iff_ne.mpr c43
                    exact absurd ((Option.some.inj H).trans hrT_.out) (by simp)
          · rw [if_neg c16] at H
            exact absurd H (by simp)
        · rw [if_neg c15] at H
          exact absurd H (by simp)
      · rw [if_neg c13] at H
        exact absurd H (by simp)
    · rw [if_neg c12] at H
      exact absurd H (by simp)
  · replace c7 := Bool.eq_false_iff.mpr c7
    subst c7
    have H1 : (some false) = some r := by rw [if_neg (show ¬ (false = true) by decide)] at H; exact H
    clear H
    have H := H1
    clear H1
    exact absurd ((Option.some.inj H).trans hrT_.out) (by simp)

/-- THE ONE PURE STATEMENT of racewaylaw5_FlowHalves. -/
def racewaylaw5_FlowHalves.Pure : Prop := ∀ (a0 : Int) (a1 : Int) (l2 : List (S73)) (l3 : List Int) (a4 : Int), (Lit.int .i64 a0).wf = true → (Lit.int .i64 a1).wf = true → l2.length ≤ maxLen → (∀ x ∈ l2, (Lit.int .i64 x.f0).wf = true ∧ (Lit.int .i64 x.f1).wf = true ∧ (Lit.int .i64 x.f2).wf = true) → l3.length ≤ maxLen → l3.length * 8 ≤ 140737488351232 → (∀ x ∈ l3, (Lit.int .i64 x).wf = true) → (Lit.int .i64 a4).wf = true → ∃ k, racewaylaw5_FlowHalves.f k a0 a1 l2 l3 a4 = some true
theorem racewaylaw5_FlowHalves.walk (P : racewaylaw5_FlowHalves.Pure) (a0 : Int) (a1 : Int) (A2 : Option Addr) (c2 : Nat) (l2 : List (S73)) (A3 : Option Addr) (c3 : Nat) (l3 : List Int) (a4 : Int) (w : World) (w0 : (Lit.int .i64 a0).wf = true) (w1 : (Lit.int .i64 a1).wf = true) (hr2 : Kd.C k73 w A2 l2.length l2) (hc2 : l2.length ≤ c2) (hm2 : l2.length ≤ maxLen) (hw2 : (∀ x ∈ l2, (Lit.int .i64 x.f0).wf = true ∧ (Lit.int .i64 x.f1).wf = true ∧ (Lit.int .i64 x.f2).wf = true)) (hr3 : Kd.C (Kd.int .i64) w A3 l3.length l3) (hc3 : l3.length ≤ c3) (hm3 : l3.length ≤ maxLen) (y3 : l3.length * 8 ≤ 140737488351232) (hw3 : (∀ x ∈ l3, (Lit.int .i64 x).wf = true)) (w4 : (Lit.int .i64 a4).wf = true) :
    Calls Try.prog 12 #[.int .i64 a0, .int .i64 a1, .slice A2 l2.length c2, .slice A3 l3.length c3, .int .i64 a4] w fun e w' => e = .returned (.bool true) ∧ Below w.heap.size w w' := by
  obtain ⟨k, h⟩ := P a0 a1 l2 l3 a4 w0 w1 hm2 hw2 hm3 y3 hw3 w4
  refine (racewaylaw5_FlowHalves.calls k a0 a1 _ _ l2 _ _ l3 a4 true w hr2 hc2 hr3 hc3 h ⟨rfl⟩).mono ?_
  rintro e w' ⟨rfl, hd⟩
  exact ⟨rfl, hd⟩

end Go.Proofs.Ytjbeofcgnnlllaa.PFlowHalves
