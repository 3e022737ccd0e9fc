/- For the claim that the law FlowRoutes of the given program holds for every input: a text written by a program (wip/myprint over the kit's print), with contracts by hand where it says MANUAL. -/
import Derived.Test.YtbonhjjhohbggaaPFlowRoutesx0
import Derived.Test.YtbonhjjhohbggaaPFlowRoutesx5
import Derived.Test.YtbonhjjhohbggaaPFlowRoutesx6
import Derived.Test.YtbonhjjhohbggaaPFlowRoutesx7
import Derived.Test.YtbonhjjhohbggaaPFlowRoutesx9
import Derived.Test.YtbonhjjhohbggaaPFlowRoutesx11
import Derived.Test.YtbonhjjhohbggaaPFlowRoutesx12
import Derived.Test.YtbonhjjhohbggaaPFlowRoutesx15
namespace Go.Proofs.Ytbonhjjhohbggaa.PFlowRoutes
open Go.RowKit Go.Proofs.YtbonhjjhohbggaaW.PrintWords Go.Proofs.YtbonhjjhohbggaaW.PrintLast Go.Proofs.YtbonhjjhohbggaaW.PrintMore
attribute [local go_sem] max2_int min2_int max_two min_two max_three min_three max_four min_four   -- for this text's walks alone
set_option linter.unusedVariables false
set_option linter.unusedSimpArgs false

/-! ### racewaylaw5_FlowRoutes: function 3 -/
mutual
def racewaylaw5_FlowRoutes.j0 : Nat → List Int → Int → Bool → Int → Int → Int → List (S38) → Option (Bool)
  | 0, _, _, _, _, _, _, _ => none
  | k + 1, x11, x12, x85, x213000, x213001, x213002, x213003 => if x85 = true then (some false) else (racewaylaw5_FlowRoutes.l0 k x11 x12 0 1 x213000 x213001 x213002 x213003)
def racewaylaw5_FlowRoutes.l0 : Nat → List Int → Int → Int → Int → Int → Int → Int → List (S38) → Option (Bool)
  | 0, _, _, _, _, _, _, _, _ => none
  | k + 1, x11, x12, x18, x19, x213000, x213001, x213002, x213003 => if x19 ≤ x213000 then ((flow_Excess.f k x213000 x213001 x213002 x213003 x11 x19).bind fun bt229 => (if bt229.2 = 0 then (if x19 = x213001 then (racewaylaw5_FlowRoutes.l0 k x11 x12 (wrap64 (x18 + bt229.1)) (wrap64 (x19 + 1)) x213000 x213001 x213002 x213003) else (if x19 = x213002 then (racewaylaw5_FlowRoutes.l0 k x11 x12 (wrap64 (x18 + bt229.1)) (wrap64 (x19 + 1)) x213000 x213001 x213002 x213003) else (if bt229.1 = 0 then (racewaylaw5_FlowRoutes.l0 k x11 x12 (wrap64 (x18 + bt229.1)) (wrap64 (x19 + 1)) x213000 x213001 x213002 x213003) else (some false)))) else (some false))) else (racewaylaw5_FlowRoutes.l1 k x12 x18 0 0 x213000 x213001 x213002 x213003)
def racewaylaw5_FlowRoutes.l1 : Nat → Int → Int → Int → Int → Int → Int → Int → List (S38) → Option (Bool)
  | 0, _, _, _, _, _, _, _, _ => none
  | k + 1, x12, x18, x22, x23, x213000, x213001, x213002, x213003 => if x23 < (x213003.length : Int) then (if 0 ≤ x23 then (if ((rd_T38 x213003 x23).f1) = x213002 then (racewaylaw5_FlowRoutes.l1 k x12 x18 (wrap64 (x22 + ((rd_T38 x213003 x23).f2))) (wrap64 (x23 + 1)) x213000 x213001 x213002 x213003) else (racewaylaw5_FlowRoutes.l1 k x12 x18 x22 (wrap64 (x23 + 1)) x213000 x213001 x213002 x213003)) else (none)) else (if x18 = 0 then (some (decide (x12 ≤ x22))) else (some false))
end
def racewaylaw5_FlowRoutes.f (k : Nat) (a0 : Int) (a1 : Int) (l2 : List (S42)) (l3 : List Int) : Option (Bool) := (racewaylaw5_shown.f k).bind fun t205 => (if t205 = true then ((racewaylaw5_made.f k a0 a1 l2).bind fun bt206 => ((racewaylaw5_routed.f k bt206.1 bt206.2.1 bt206.2.2.1 bt206.2.2.2 l3).bind fun t213 => ((flow_Value.f k bt206.1 bt206.2.1 bt206.2.2.1 bt206.2.2.2 t213).bind fun bt216 => ((flow_Excess.f k bt206.1 bt206.2.1 bt206.2.2.1 bt206.2.2.2 t213 bt206.2.1).bind fun bt218 => ((net_Turn.f bt206.1 bt206.2.1 bt206.2.2.1 bt206.2.2.2).bind fun bt220 => ((flow_Value.f k bt220.1 bt220.2.1 bt220.2.2.1 bt220.2.2.2 t213).bind fun bt226 => ((flow_Check.f k bt206.1 bt206.2.1 bt206.2.2.1 bt206.2.2.2 t213).bind fun t228 => (if t228 = 0 then (if bt216.2 = 0 then (if bt218.2 = 0 then (if bt226.2 = 0 then (if bt218.1 = (wrap64 (-bt216.1)) then (if bt226.1 = bt216.1 then (racewaylaw5_FlowRoutes.j0 k t213 bt216.1 (decide (bt216.1 < 0)) bt206.1 bt206.2.1 bt206.2.2.1 bt206.2.2.2) else (racewaylaw5_FlowRoutes.j0 k t213 bt216.1 true bt206.1 bt206.2.1 bt206.2.2.1 bt206.2.2.2)) else (racewaylaw5_FlowRoutes.j0 k t213 bt216.1 true bt206.1 bt206.2.1 bt206.2.2.1 bt206.2.2.2)) else (racewaylaw5_FlowRoutes.j0 k t213 bt216.1 true bt206.1 bt206.2.1 bt206.2.2.1 bt206.2.2.2)) else (racewaylaw5_FlowRoutes.j0 k t213 bt216.1 true bt206.1 bt206.2.1 bt206.2.2.1 bt206.2.2.2)) else (racewaylaw5_FlowRoutes.j0 k t213 bt216.1 true bt206.1 bt206.2.1 bt206.2.2.1 bt206.2.2.2)) else (racewaylaw5_FlowRoutes.j0 k t213 bt216.1 true bt206.1 bt206.2.1 bt206.2.2.1 bt206.2.2.2))))))))) else (some false))
theorem racewaylaw5_FlowRoutes.mono_l : ∀ k, (∀ y0 y1 y2 y3 y4 y5 y6, LeO (racewaylaw5_FlowRoutes.j0 k y0 y1 y2 y3 y4 y5 y6) (racewaylaw5_FlowRoutes.j0 (k + 1) y0 y1 y2 y3 y4 y5 y6)) ∧ (∀ y0 y1 y2 y3 y4 y5 y6 y7, LeO (racewaylaw5_FlowRoutes.l0 k y0 y1 y2 y3 y4 y5 y6 y7) (racewaylaw5_FlowRoutes.l0 (k + 1) y0 y1 y2 y3 y4 y5 y6 y7)) ∧ (∀ y0 y1 y2 y3 y4 y5 y6 y7, LeO (racewaylaw5_FlowRoutes.l1 k y0 y1 y2 y3 y4 y5 y6 y7) (racewaylaw5_FlowRoutes.l1 (k + 1) y0 y1 y2 y3 y4 y5 y6 y7))
  | 0 => ⟨fun _ _ _ _ _ _ _ r h => by simp [racewaylaw5_FlowRoutes.j0] at h, fun _ _ _ _ _ _ _ _ r h => by simp [racewaylaw5_FlowRoutes.l0] at h, fun _ _ _ _ _ _ _ _ r h => by simp [racewaylaw5_FlowRoutes.l1] at h⟩
  | k + 1 => by
    obtain ⟨ih0, ih1, ih2⟩ := racewaylaw5_FlowRoutes.mono_l k
    refine ⟨?_, ?_, ?_⟩
    · intro y0 y1 y2 y3 y4 y5 y6
      unfold racewaylaw5_FlowRoutes.j0
      repeat' first
      | (with_reducible exact ih0 _ _ _ _ _ _ _)
      | (with_reducible exact ih1 _ _ _ _ _ _ _ _)
      | (with_reducible exact ih2 _ _ _ _ _ _ _ _)
      | (with_reducible exact flow_Check.mono _ _ _ _ _ _)
      | (with_reducible exact flow_Excess.mono _ _ _ _ _ _ _)
      | (with_reducible exact flow_Value.mono _ _ _ _ _ _)
      | (with_reducible exact racewaylaw5_made.mono _ _ _ _)
      | (with_reducible exact racewaylaw5_routed.mono _ _ _ _ _ _)
      | (with_reducible exact racewaylaw5_shown.mono _)
      | (with_reducible exact LeO.refl _)
      | (with_reducible exact LeO.none _)
      | (with_reducible refine LeO.ite ?_ ?_)
      | (with_reducible refine LeO.bind ?_ (fun _ => ?_))
      | exact ih0 _ _ _ _ _ _ _
      | exact ih1 _ _ _ _ _ _ _ _
      | exact ih2 _ _ _ _ _ _ _ _
      | exact flow_Check.mono _ _ _ _ _ _
      | exact flow_Excess.mono _ _ _ _ _ _ _
      | exact flow_Value.mono _ _ _ _ _ _
      | exact racewaylaw5_made.mono _ _ _ _
      | exact racewaylaw5_routed.mono _ _ _ _ _ _
      | exact racewaylaw5_shown.mono _
      | exact LeO.none _
      | refine LeO.ite ?_ ?_
      | refine LeO.bind ?_ (fun _ => ?_)
    · intro y0 y1 y2 y3 y4 y5 y6 y7
      unfold racewaylaw5_FlowRoutes.l0
      repeat' first
      | (with_reducible exact ih0 _ _ _ _ _ _ _)
      | (with_reducible exact ih1 _ _ _ _ _ _ _ _)
      | (with_reducible exact ih2 _ _ _ _ _ _ _ _)
      | (with_reducible exact flow_Check.mono _ _ _ _ _ _)
      | (with_reducible exact flow_Excess.mono _ _ _ _ _ _ _)
      | (with_reducible exact flow_Value.mono _ _ _ _ _ _)
      | (with_reducible exact racewaylaw5_made.mono _ _ _ _)
      | (with_reducible exact racewaylaw5_routed.mono _ _ _ _ _ _)
      | (with_reducible exact racewaylaw5_shown.mono _)
      | (with_reducible exact LeO.refl _)
      | (with_reducible exact LeO.none _)
      | (with_reducible refine LeO.ite ?_ ?_)
      | (with_reducible refine LeO.bind ?_ (fun _ => ?_))
      | exact ih0 _ _ _ _ _ _ _
      | exact ih1 _ _ _ _ _ _ _ _
      | exact ih2 _ _ _ _ _ _ _ _
      | exact flow_Check.mono _ _ _ _ _ _
      | exact flow_Excess.mono _ _ _ _ _ _ _
      | exact flow_Value.mono _ _ _ _ _ _
      | exact racewaylaw5_made.mono _ _ _ _
      | exact racewaylaw5_routed.mono _ _ _ _ _ _
      | exact racewaylaw5_shown.mono _
      | exact LeO.none _
      | refine LeO.ite ?_ ?_
      | refine LeO.bind ?_ (fun _ => ?_)
    · intro y0 y1 y2 y3 y4 y5 y6 y7
      unfold racewaylaw5_FlowRoutes.l1
      repeat' first
      | (with_reducible exact ih0 _ _ _ _ _ _ _)
      | (with_reducible exact ih1 _ _ _ _ _ _ _ _)
      | (with_reducible exact ih2 _ _ _ _ _ _ _ _)
      | (with_reducible exact flow_Check.mono _ _ _ _ _ _)
      | (with_reducible exact flow_Excess.mono _ _ _ _ _ _ _)
      | (with_reducible exact flow_Value.mono _ _ _ _ _ _)
      | (with_reducible exact racewaylaw5_made.mono _ _ _ _)
      | (with_reducible exact racewaylaw5_routed.mono _ _ _ _ _ _)
      | (with_reducible exact racewaylaw5_shown.mono _)
      | (with_reducible exact LeO.refl _)
      | (with_reducible exact LeO.none _)
      | (with_reducible refine LeO.ite ?_ ?_)
      | (with_reducible refine LeO.bind ?_ (fun _ => ?_))
      | exact ih0 _ _ _ _ _ _ _
      | exact ih1 _ _ _ _ _ _ _ _
      | exact ih2 _ _ _ _ _ _ _ _
      | exact flow_Check.mono _ _ _ _ _ _
      | exact flow_Excess.mono _ _ _ _ _ _ _
      | exact flow_Value.mono _ _ _ _ _ _
      | exact racewaylaw5_made.mono _ _ _ _
      | exact racewaylaw5_routed.mono _ _ _ _ _ _
      | exact racewaylaw5_shown.mono _
      | exact LeO.none _
      | refine LeO.ite ?_ ?_
      | refine LeO.bind ?_ (fun _ => ?_)
theorem racewaylaw5_FlowRoutes.mono : ∀ a0 a1 a2 a3 k, LeO (racewaylaw5_FlowRoutes.f k a0 a1 a2 a3) (racewaylaw5_FlowRoutes.f (k + 1) a0 a1 a2 a3) := by
  intro a0 a1 a2 a3 k
  obtain ⟨ih0, ih1, ih2⟩ := racewaylaw5_FlowRoutes.mono_l k
  unfold racewaylaw5_FlowRoutes.f
  repeat' first
      | (with_reducible exact ih0 _ _ _ _ _ _ _)
      | (with_reducible exact ih1 _ _ _ _ _ _ _ _)
      | (with_reducible exact ih2 _ _ _ _ _ _ _ _)
      | (with_reducible exact flow_Check.mono _ _ _ _ _ _)
      | (with_reducible exact flow_Excess.mono _ _ _ _ _ _ _)
      | (with_reducible exact flow_Value.mono _ _ _ _ _ _)
      | (with_reducible exact racewaylaw5_made.mono _ _ _ _)
      | (with_reducible exact racewaylaw5_routed.mono _ _ _ _ _ _)
      | (with_reducible exact racewaylaw5_shown.mono _)
      | (with_reducible exact LeO.refl _)
      | (with_reducible exact LeO.none _)
      | (with_reducible refine LeO.ite ?_ ?_)
      | (with_reducible refine LeO.bind ?_ (fun _ => ?_))
      | exact ih0 _ _ _ _ _ _ _
      | exact ih1 _ _ _ _ _ _ _ _
      | exact ih2 _ _ _ _ _ _ _ _
      | exact flow_Check.mono _ _ _ _ _ _
      | exact flow_Excess.mono _ _ _ _ _ _ _
      | exact flow_Value.mono _ _ _ _ _ _
      | exact racewaylaw5_made.mono _ _ _ _
      | exact racewaylaw5_routed.mono _ _ _ _ _ _
      | exact racewaylaw5_shown.mono _
      | exact LeO.none _
      | refine LeO.ite ?_ ?_
      | refine LeO.bind ?_ (fun _ => ?_)
set_option maxHeartbeats 8000000 in
set_option maxRecDepth 100000 in
theorem racewaylaw5_FlowRoutes.calls (k : Nat) (a0 : Int) (a1 : Int) (A2 : Option Addr) (c2 : Nat) (l2 : List (S42)) (A3 : Option Addr) (c3 : Nat) (l3 : List Int) (r : Bool) (w : World) (hr2 : Kd.C k42 w A2 l2.length l2) (hc2 : l2.length ≤ c2) (hr3 : Kd.C (Kd.int .i64) w A3 l3.length l3) (hc3 : l3.length ≤ c3) (h : racewaylaw5_FlowRoutes.f k a0 a1 l2 l3 = some r) (hrT_ : Aside0 (r = true)) :
    Calls Try.prog 3 #[.int .i64 a0, .int .i64 a1, .slice A2 l2.length c2, .slice A3 l3.length c3] w fun e w' => e = .returned (.bool r) ∧ Below w.heap.size w w' := by
  have hu27 := Try.underlying27
  have HR2 := Aside0.mk hr2
  have HC2 := Aside0.mk hc2
  clear hr2 hc2
  have HR3 := Aside0.mk hr3
  have HC3 := Aside0.mk hc3
  clear hr3 hc3
  have HB := Aside0.mk (Below.refl w.heap.size w)
  have H : ((racewaylaw5_shown.f k).bind fun t205 => (if t205 = true then ((racewaylaw5_made.f k a0 a1 l2).bind fun bt206 => ((racewaylaw5_routed.f k bt206.1 bt206.2.1 bt206.2.2.1 bt206.2.2.2 l3).bind fun t213 => ((flow_Value.f k bt206.1 bt206.2.1 bt206.2.2.1 bt206.2.2.2 t213).bind fun bt216 => ((flow_Excess.f k bt206.1 bt206.2.1 bt206.2.2.1 bt206.2.2.2 t213 bt206.2.1).bind fun bt218 => ((net_Turn.f bt206.1 bt206.2.1 bt206.2.2.1 bt206.2.2.2).bind fun bt220 => ((flow_Value.f k bt220.1 bt220.2.1 bt220.2.2.1 bt220.2.2.2 t213).bind fun bt226 => ((flow_Check.f k bt206.1 bt206.2.1 bt206.2.2.1 bt206.2.2.2 t213).bind fun t228 => (if t228 = 0 then (if bt216.2 = 0 then (if bt218.2 = 0 then (if bt226.2 = 0 then (if bt218.1 = (wrap64 (-bt216.1)) then (if bt226.1 = bt216.1 then (racewaylaw5_FlowRoutes.j0 k t213 bt216.1 (decide (bt216.1 < 0)) bt206.1 bt206.2.1 bt206.2.2.1 bt206.2.2.2) else (racewaylaw5_FlowRoutes.j0 k t213 bt216.1 true bt206.1 bt206.2.1 bt206.2.2.1 bt206.2.2.2)) else (racewaylaw5_FlowRoutes.j0 k t213 bt216.1 true bt206.1 bt206.2.1 bt206.2.2.1 bt206.2.2.2)) else (racewaylaw5_FlowRoutes.j0 k t213 bt216.1 true bt206.1 bt206.2.1 bt206.2.2.1 bt206.2.2.2)) else (racewaylaw5_FlowRoutes.j0 k t213 bt216.1 true bt206.1 bt206.2.1 bt206.2.2.1 bt206.2.2.2)) else (racewaylaw5_FlowRoutes.j0 k t213 bt216.1 true bt206.1 bt206.2.1 bt206.2.2.1 bt206.2.2.2)) else (racewaylaw5_FlowRoutes.j0 k t213 bt216.1 true bt206.1 bt206.2.1 bt206.2.2.1 bt206.2.2.2))))))))) else (some false))) = some r := h
  clear h
  replace H := Option.bind_eq_some_iff.mp H
  obtain ⟨t205, A50, H⟩ := H
  replace H : (if t205 = true then ((racewaylaw5_made.f k a0 a1 l2).bind fun bt206 => ((racewaylaw5_routed.f k bt206.1 bt206.2.1 bt206.2.2.1 bt206.2.2.2 l3).bind fun t213 => ((flow_Value.f k bt206.1 bt206.2.1 bt206.2.2.1 bt206.2.2.2 t213).bind fun bt216 => ((flow_Excess.f k bt206.1 bt206.2.1 bt206.2.2.1 bt206.2.2.2 t213 bt206.2.1).bind fun bt218 => ((net_Turn.f bt206.1 bt206.2.1 bt206.2.2.1 bt206.2.2.2).bind fun bt220 => ((flow_Value.f k bt220.1 bt220.2.1 bt220.2.2.1 bt220.2.2.2 t213).bind fun bt226 => ((flow_Check.f k bt206.1 bt206.2.1 bt206.2.2.1 bt206.2.2.2 t213).bind fun t228 => (if t228 = 0 then (if bt216.2 = 0 then (if bt218.2 = 0 then (if bt226.2 = 0 then (if bt218.1 = (wrap64 (-bt216.1)) then (if bt226.1 = bt216.1 then (racewaylaw5_FlowRoutes.j0 k t213 bt216.1 (decide (bt216.1 < 0)) bt206.1 bt206.2.1 bt206.2.2.1 bt206.2.2.2) else (racewaylaw5_FlowRoutes.j0 k t213 bt216.1 true bt206.1 bt206.2.1 bt206.2.2.1 bt206.2.2.2)) else (racewaylaw5_FlowRoutes.j0 k t213 bt216.1 true bt206.1 bt206.2.1 bt206.2.2.1 bt206.2.2.2)) else (racewaylaw5_FlowRoutes.j0 k t213 bt216.1 true bt206.1 bt206.2.1 bt206.2.2.1 bt206.2.2.2)) else (racewaylaw5_FlowRoutes.j0 k t213 bt216.1 true bt206.1 bt206.2.1 bt206.2.2.1 bt206.2.2.2)) else (racewaylaw5_FlowRoutes.j0 k t213 bt216.1 true bt206.1 bt206.2.1 bt206.2.2.1 bt206.2.2.2)) else (racewaylaw5_FlowRoutes.j0 k t213 bt216.1 true bt206.1 bt206.2.1 bt206.2.2.1 bt206.2.2.2))))))))) else (some false)) = some r := H
  have A5 := Aside0.mk A50
  clear A50
  by_cases c6 : t205 = true
  · subst c6
    have H1 : ((racewaylaw5_made.f k a0 a1 l2).bind fun bt206 => ((racewaylaw5_routed.f k bt206.1 bt206.2.1 bt206.2.2.1 bt206.2.2.2 l3).bind fun t213 => ((flow_Value.f k bt206.1 bt206.2.1 bt206.2.2.1 bt206.2.2.2 t213).bind fun bt216 => ((flow_Excess.f k bt206.1 bt206.2.1 bt206.2.2.1 bt206.2.2.2 t213 bt206.2.1).bind fun bt218 => ((net_Turn.f bt206.1 bt206.2.1 bt206.2.2.1 bt206.2.2.2).bind fun bt220 => ((flow_Value.f k bt220.1 bt220.2.1 bt220.2.2.1 bt220.2.2.2 t213).bind fun bt226 => ((flow_Check.f k bt206.1 bt206.2.1 bt206.2.2.1 bt206.2.2.2 t213).bind fun t228 => (if t228 = 0 then (if bt216.2 = 0 then (if bt218.2 = 0 then (if bt226.2 = 0 then (if bt218.1 = (wrap64 (-bt216.1)) then (if bt226.1 = bt216.1 then (racewaylaw5_FlowRoutes.j0 k t213 bt216.1 (decide (bt216.1 < 0)) bt206.1 bt206.2.1 bt206.2.2.1 bt206.2.2.2) else (racewaylaw5_FlowRoutes.j0 k t213 bt216.1 true bt206.1 bt206.2.1 bt206.2.2.1 bt206.2.2.2)) else (racewaylaw5_FlowRoutes.j0 k t213 bt216.1 true bt206.1 bt206.2.1 bt206.2.2.1 bt206.2.2.2)) else (racewaylaw5_FlowRoutes.j0 k t213 bt216.1 true bt206.1 bt206.2.1 bt206.2.2.1 bt206.2.2.2)) else (racewaylaw5_FlowRoutes.j0 k t213 bt216.1 true bt206.1 bt206.2.1 bt206.2.2.1 bt206.2.2.2)) else (racewaylaw5_FlowRoutes.j0 k t213 bt216.1 true bt206.1 bt206.2.1 bt206.2.2.1 bt206.2.2.2)) else (racewaylaw5_FlowRoutes.j0 k t213 bt216.1 true bt206.1 bt206.2.1 bt206.2.2.1 bt206.2.2.2))))))))) = some r := by rw [if_pos rfl] at H; exact H
    clear H
    have H := H1
    clear H1
    replace H := Option.bind_eq_some_iff.mp H
    obtain ⟨⟨t206, t207, t208, t209⟩, A70, H⟩ := H
    replace H : ((racewaylaw5_routed.f k t206 t207 t208 t209 l3).bind fun t213 => ((flow_Value.f k t206 t207 t208 t209 t213).bind fun bt216 => ((flow_Excess.f k t206 t207 t208 t209 t213 t207).bind fun bt218 => ((net_Turn.f t206 t207 t208 t209).bind fun bt220 => ((flow_Value.f k bt220.1 bt220.2.1 bt220.2.2.1 bt220.2.2.2 t213).bind fun bt226 => ((flow_Check.f k t206 t207 t208 t209 t213).bind fun t228 => (if t228 = 0 then (if bt216.2 = 0 then (if bt218.2 = 0 then (if bt226.2 = 0 then (if bt218.1 = (wrap64 (-bt216.1)) then (if bt226.1 = bt216.1 then (racewaylaw5_FlowRoutes.j0 k t213 bt216.1 (decide (bt216.1 < 0)) t206 t207 t208 t209) else (racewaylaw5_FlowRoutes.j0 k t213 bt216.1 true t206 t207 t208 t209)) else (racewaylaw5_FlowRoutes.j0 k t213 bt216.1 true t206 t207 t208 t209)) else (racewaylaw5_FlowRoutes.j0 k t213 bt216.1 true t206 t207 t208 t209)) else (racewaylaw5_FlowRoutes.j0 k t213 bt216.1 true t206 t207 t208 t209)) else (racewaylaw5_FlowRoutes.j0 k t213 bt216.1 true t206 t207 t208 t209)) else (racewaylaw5_FlowRoutes.j0 k t213 bt216.1 true t206 t207 t208 t209)))))))) = some r := H
    have A7 := Aside0.mk A70
    clear A70
    replace H := Option.bind_eq_some_iff.mp H
    obtain ⟨t213, A80, H⟩ := H
    replace H : ((flow_Value.f k t206 t207 t208 t209 t213).bind fun bt216 => ((flow_Excess.f k t206 t207 t208 t209 t213 t207).bind fun bt218 => ((net_Turn.f t206 t207 t208 t209).bind fun bt220 => ((flow_Value.f k bt220.1 bt220.2.1 bt220.2.2.1 bt220.2.2.2 t213).bind fun bt226 => ((flow_Check.f k t206 t207 t208 t209 t213).bind fun t228 => (if t228 = 0 then (if bt216.2 = 0 then (if bt218.2 = 0 then (if bt226.2 = 0 then (if bt218.1 = (wrap64 (-bt216.1)) then (if bt226.1 = bt216.1 then (racewaylaw5_FlowRoutes.j0 k t213 bt216.1 (decide (bt216.1 < 0)) t206 t207 t208 t209) else (racewaylaw5_FlowRoutes.j0 k t213 bt216.1 true t206 t207 t208 t209)) else (racewaylaw5_FlowRoutes.j0 k t213 bt216.1 true t206 t207 t208 t209)) else (racewaylaw5_FlowRoutes.j0 k t213 bt216.1 true t206 t207 t208 t209)) else (racewaylaw5_FlowRoutes.j0 k t213 bt216.1 true t206 t207 t208 t209)) else (racewaylaw5_FlowRoutes.j0 k t213 bt216.1 true t206 t207 t208 t209)) else (racewaylaw5_FlowRoutes.j0 k t213 bt216.1 true t206 t207 t208 t209))))))) = some r := H
    have A8 := Aside0.mk A80
    clear A80
    replace H := Option.bind_eq_some_iff.mp H
    obtain ⟨⟨t216, t217⟩, A90, H⟩ := H
    replace H : ((flow_Excess.f k t206 t207 t208 t209 t213 t207).bind fun bt218 => ((net_Turn.f t206 t207 t208 t209).bind fun bt220 => ((flow_Value.f k bt220.1 bt220.2.1 bt220.2.2.1 bt220.2.2.2 t213).bind fun bt226 => ((flow_Check.f k t206 t207 t208 t209 t213).bind fun t228 => (if t228 = 0 then (if t217 = 0 then (if bt218.2 = 0 then (if bt226.2 = 0 then (if bt218.1 = (wrap64 (-t216)) then (if bt226.1 = t216 then (racewaylaw5_FlowRoutes.j0 k t213 t216 (decide (t216 < 0)) t206 t207 t208 t209) else (racewaylaw5_FlowRoutes.j0 k t213 t216 true t206 t207 t208 t209)) else (racewaylaw5_FlowRoutes.j0 k t213 t216 true t206 t207 t208 t209)) else (racewaylaw5_FlowRoutes.j0 k t213 t216 true t206 t207 t208 t209)) else (racewaylaw5_FlowRoutes.j0 k t213 t216 true t206 t207 t208 t209)) else (racewaylaw5_FlowRoutes.j0 k t213 t216 true t206 t207 t208 t209)) else (racewaylaw5_FlowRoutes.j0 k t213 t216 true t206 t207 t208 t209)))))) = some r := H
    have A9 := Aside0.mk A90
    clear A90
    replace H := Option.bind_eq_some_iff.mp H
    obtain ⟨⟨t218, t219⟩, A100, H⟩ := H
    replace H : ((net_Turn.f t206 t207 t208 t209).bind fun bt220 => ((flow_Value.f k bt220.1 bt220.2.1 bt220.2.2.1 bt220.2.2.2 t213).bind fun bt226 => ((flow_Check.f k t206 t207 t208 t209 t213).bind fun t228 => (if t228 = 0 then (if t217 = 0 then (if t219 = 0 then (if bt226.2 = 0 then (if t218 = (wrap64 (-t216)) then (if bt226.1 = t216 then (racewaylaw5_FlowRoutes.j0 k t213 t216 (decide (t216 < 0)) t206 t207 t208 t209) else (racewaylaw5_FlowRoutes.j0 k t213 t216 true t206 t207 t208 t209)) else (racewaylaw5_FlowRoutes.j0 k t213 t216 true t206 t207 t208 t209)) else (racewaylaw5_FlowRoutes.j0 k t213 t216 true t206 t207 t208 t209)) else (racewaylaw5_FlowRoutes.j0 k t213 t216 true t206 t207 t208 t209)) else (racewaylaw5_FlowRoutes.j0 k t213 t216 true t206 t207 t208 t209)) else (racewaylaw5_FlowRoutes.j0 k t213 t216 true t206 t207 t208 t209))))) = some r := H
    have A10 := Aside0.mk A100
    clear A100
    replace H := Option.bind_eq_some_iff.mp H
    obtain ⟨⟨t220, t221, t222, t223⟩, A110, H⟩ := H
    replace H : ((flow_Value.f k t220 t221 t222 t223 t213).bind fun bt226 => ((flow_Check.f k t206 t207 t208 t209 t213).bind fun t228 => (if t228 = 0 then (if t217 = 0 then (if t219 = 0 then (if bt226.2 = 0 then (if t218 = (wrap64 (-t216)) then (if bt226.1 = t216 then (racewaylaw5_FlowRoutes.j0 k t213 t216 (decide (t216 < 0)) t206 t207 t208 t209) else (racewaylaw5_FlowRoutes.j0 k t213 t216 true t206 t207 t208 t209)) else (racewaylaw5_FlowRoutes.j0 k t213 t216 true t206 t207 t208 t209)) else (racewaylaw5_FlowRoutes.j0 k t213 t216 true t206 t207 t208 t209)) else (racewaylaw5_FlowRoutes.j0 k t213 t216 true t206 t207 t208 t209)) else (racewaylaw5_FlowRoutes.j0 k t213 t216 true t206 t207 t208 t209)) else (racewaylaw5_FlowRoutes.j0 k t213 t216 true t206 t207 t208 t209)))) = some r := H
    have A11 := Aside0.mk A110
    clear A110
    replace H := Option.bind_eq_some_iff.mp H
    obtain ⟨⟨t226, t227⟩, A120, H⟩ := H
    replace H : ((flow_Check.f k t206 t207 t208 t209 t213).bind fun t228 => (if t228 = 0 then (if t217 = 0 then (if t219 = 0 then (if t227 = 0 then (if t218 = (wrap64 (-t216)) then (if t226 = t216 then (racewaylaw5_FlowRoutes.j0 k t213 t216 (decide (t216 < 0)) t206 t207 t208 t209) else (racewaylaw5_FlowRoutes.j0 k t213 t216 true t206 t207 t208 t209)) else (racewaylaw5_FlowRoutes.j0 k t213 t216 true t206 t207 t208 t209)) else (racewaylaw5_FlowRoutes.j0 k t213 t216 true t206 t207 t208 t209)) else (racewaylaw5_FlowRoutes.j0 k t213 t216 true t206 t207 t208 t209)) else (racewaylaw5_FlowRoutes.j0 k t213 t216 true t206 t207 t208 t209)) else (racewaylaw5_FlowRoutes.j0 k t213 t216 true t206 t207 t208 t209))) = some r := H
    have A12 := Aside0.mk A120
    clear A120
    have HC13 := Aside0.mk H
    clear H
    go_enter Try.func3, Try.ntmps3
    go_upto_region 9 with (first | (go_at_call 4; (with_reducible refine (racewaylaw5_shown.calls k  true _ A5.out).mono ?_); rintro e w14 ⟨rfl, hb⟩; have n0_ := Aside0.mk (below_step (by repeat (first | (with_reducible first | exact HB.out | apply below_alloc | apply pw_below_drewN | apply below_drew1) | exact HB.out)) hb); clear HB; have HB := n0_; clear n0_; (try clear hb); (try clear hb2); (try clear hk); (try clear hi)) | (go_at_call 5; (with_reducible refine (racewaylaw5_made.calls k a0 a1 _ _ l2 t206 t207 t208 t209 _ ?side1 ?side2 A7.out).mono ?_); (case side1 => repeat (first | exact (Kd.C_below HR2.out HB.out) | (with_reducible refine Kd.C_alloc ?_ _) | (with_reducible refine Kd.C_drewN ?_ _) | (with_reducible refine Kd.C_drew ?_))); (case side2 => exact HC2.out); rintro e w15 ⟨v210, rfl, ho0, hb⟩; have n0_ := Aside0.mk (Kd.R_lower ho0 (below_size (by repeat (first | (with_reducible first | exact HB.out | apply below_alloc | apply pw_below_drewN | apply below_drew1) | exact HB.out)))); have n1_ := Aside0.mk (below_step (by repeat (first | (with_reducible first | exact HB.out | apply below_alloc | apply pw_below_drewN | apply below_drew1) | exact HB.out)) hb); clear HB; have HO211 := n0_; have HB := n1_; clear n0_ n1_; (try clear hb); (try clear hb2); (try clear hk); (try clear hi); (try clear ho0)) | ((with_reducible refine gate_dst (N := 10) rfl ?_); refine box_event ?hg (N := 10) ?hd (cs := #[.int .i64 0, .int .i64 0, .int .i64 0, .slice none 0 0]) (t := 27) ?hr ?_; (case hd => rfl); (case hg => rfl); (case hr => first | (go_simp; done) | (go_simp; rfl)); intro gb212 hg w16 hbox hb; have n0_ := Aside0.mk (Kd.R_below (by (with_reducible repeat (first | apply Kd.R_alloc | apply Kd.R_drewN | apply Kd.R_drew)); exact HO211.out) hb); have n1_ := Aside0.mk (below_step (by repeat (first | (with_reducible first | exact HB.out | apply below_alloc | apply pw_below_drewN | apply below_drew1) | exact HB.out)) hb); have n2_ := Aside0.mk (hbox); have n3_ := Aside0.mk ((by rw [hg]; exact (below_size (by repeat (first | (with_reducible first | exact HB.out | apply below_alloc | apply pw_below_drewN | apply below_drew1) | exact HB.out))) : w.heap.size ≤ gb212)); have n4_ := Aside0.mk ((by rw [hg]; exact (below_size (by repeat (first | (with_reducible first | exact HB.out | apply below_alloc | apply pw_below_drewN | apply below_drew1) | exact HB.out))) : w.heap.size ≤ gb212)); clear HO211; clear HB; have HO211 := n0_; have HB := n1_; have BK212 := n2_; have GW212 := n3_; have GE212 := n4_; clear n0_ n1_ n2_ n3_ n4_; clear hb hbox hg; have hcz17_0 : w16.cell? ⟨gb212, 0, none⟩ = some (.int .i64 0) := (blk_cell BK212.out 0).trans rfl; have hcz17_1 : w16.cell? ⟨gb212, 1, none⟩ = some (.int .i64 0) := (blk_cell BK212.out 1).trans rfl; have hcz17_2 : w16.cell? ⟨gb212, 2, none⟩ = some (.int .i64 0) := (blk_cell BK212.out 2).trans rfl; have hcz17_3 : w16.cell? ⟨gb212, 3, none⟩ = some (.slice none 0 0) := (blk_cell BK212.out 3).trans rfl; have hfz17_0 := blk_frozen BK212.out 0; have hfz17_1 := blk_frozen BK212.out 1; have hfz17_2 := blk_frozen BK212.out 2; have hfz17_3 := blk_frozen BK212.out 3; obtain ⟨Ao18, co18, eo18⟩ := Kd.R_slice HO211.out; subst eo18) | (go_at_call 6; (with_reducible refine (racewaylaw5_routed.calls k t206 t207 t208 _ _ t209 _ _ l3 t213 _ ?side1 ?side2 ?side3 ?side4 A8.out).mono ?_); (case side1 => refine (Kd.R_reads' (e := 38) (base := w.heap.size) (ok := fun k_ => True) (n := t209.length) (c := co18) ?_).2.2; exact (by (with_reducible repeat (first | apply Kd.R_alloc | apply Kd.R_drewN | apply Kd.R_drew)); exact (Kd.R_mono (Kd.R_far (p := ⟨gb212, 3, none⟩) (Kd.R_far (p := ⟨gb212, 2, none⟩) (Kd.R_far (p := ⟨gb212, 1, none⟩) (Kd.R_far (p := ⟨gb212, 0, none⟩) (Kd.R_types HO211.out BK212.out (by decide)) (fun _ hk => hk.2) (.int .i64 t206)) (fun _ hk => hk.2) (.int .i64 t207)) (fun _ hk => hk.2) (.int .i64 t208)) (fun _ hk => hk.2) (.slice Ao18 t209.length co18)) (fun _ h_ => h_.1)))); (case side2 => exact (Kd.R_reads' HO211.out).2.1); (case side3 => exact Kd.C_below HR3.out (by repeat (first | (with_reducible first | exact HB.out | apply below_alloc | apply pw_below_drewN | apply below_drew1 | refine below_set ?_ GE212.out) | exact HB.out))); (case side4 => exact HC3.out); rintro e w19 ⟨v214, rfl, ho0, hb⟩; have n0_ := Aside0.mk (Kd.R_below (by (with_reducible repeat (first | apply Kd.R_alloc | apply Kd.R_drewN | apply Kd.R_drew)); exact (Kd.R_mono (Kd.R_far (p := ⟨gb212, 3, none⟩) (Kd.R_far (p := ⟨gb212, 2, none⟩) (Kd.R_far (p := ⟨gb212, 1, none⟩) (Kd.R_far (p := ⟨gb212, 0, none⟩) (Kd.R_types HO211.out BK212.out (by decide)) (fun _ hk => hk.2) (.int .i64 t206)) (fun _ hk => hk.2) (.int .i64 t207)) (fun _ hk => hk.2) (.int .i64 t208)) (fun _ hk => hk.2) (.slice Ao18 t209.length co18)) (fun _ h_ => h_.1))) hb); have n1_ := Aside0.mk (Kd.R_lower ho0 (below_size (by repeat (first | (with_reducible first | exact HB.out | apply below_alloc | apply pw_below_drewN | apply below_drew1 | refine below_set ?_ GE212.out) | exact HB.out)))); have n2_ := Aside0.mk (blk_below (g := gb212) (o := .cells #[.int .i64 t206, .int .i64 t207, .int .i64 t208, .slice Ao18 t209.length co18] 27 (0, 0)) (by (with_reducible repeat (first | refine blk_drewN ?_ _ | refine blk_drew ?_ | refine blk_alloc ?_ _)); refine blk_put (cs := #[.int .i64 t206, .int .i64 t207, .int .i64 t208, .slice none 0 0]) ?_ 3 _ rfl; (with_reducible repeat (first | refine blk_drewN ?_ _ | refine blk_drew ?_ | refine blk_alloc ?_ _)); refine blk_put (cs := #[.int .i64 t206, .int .i64 t207, .int .i64 0, .slice none 0 0]) ?_ 2 _ rfl; (with_reducible repeat (first | refine blk_drewN ?_ _ | refine blk_drew ?_ | refine blk_alloc ?_ _)); refine blk_put (cs := #[.int .i64 t206, .int .i64 0, .int .i64 0, .slice none 0 0]) ?_ 1 _ rfl; (with_reducible repeat (first | refine blk_drewN ?_ _ | refine blk_drew ?_ | refine blk_alloc ?_ _)); refine blk_put (cs := #[.int .i64 0, .int .i64 0, .int .i64 0, .slice none 0 0]) ?_ 0 _ rfl; (with_reducible repeat (first | refine blk_drewN ?_ _ | refine blk_drew ?_ | refine blk_alloc ?_ _)); exact BK212.out) hb); have n3_ := Aside0.mk (below_step (by repeat (first | (with_reducible first | exact HB.out | apply below_alloc | apply pw_below_drewN | apply below_drew1 | refine below_set ?_ GE212.out) | exact HB.out)) hb); clear HO211; clear BK212; clear HB; have HO211 := n0_; have HO215 := n1_; have BK212 := n2_; have HB := n3_; clear n0_ n1_ n2_ n3_; (try clear hb); (try clear hb2); (try clear hk); (try clear hi); (try clear ho0); have hcz20_0 : w19.cell? ⟨gb212, 0, none⟩ = some (.int .i64 t206) := (blk_cell BK212.out 0).trans rfl; have hcz20_1 : w19.cell? ⟨gb212, 1, none⟩ = some (.int .i64 t207) := (blk_cell BK212.out 1).trans rfl; have hcz20_2 : w19.cell? ⟨gb212, 2, none⟩ = some (.int .i64 t208) := (blk_cell BK212.out 2).trans rfl; have hcz20_3 : w19.cell? ⟨gb212, 3, none⟩ = some (.slice Ao18 t209.length co18) := (blk_cell BK212.out 3).trans rfl; have hfz20_0 := blk_frozen BK212.out 0; have hfz20_1 := blk_frozen BK212.out 1; have hfz20_2 := blk_frozen BK212.out 2; have hfz20_3 := blk_frozen BK212.out 3; obtain ⟨Ao21, co21, eo21⟩ := Kd.R_slice HO215.out; subst eo21) | (go_at_call 7; (with_reducible refine (flow_Value.calls k t206 t207 t208 _ _ t209 _ _ t213 t216 t217 _ ?side1 ?side2 ?side3 ?side4 A9.out).mono ?_); (case side1 => repeat (first | exact (Kd.R_reads' HO211.out).2.2 | (with_reducible refine Kd.C_alloc ?_ _) | (with_reducible refine Kd.C_drewN ?_ _) | (with_reducible refine Kd.C_drew ?_))); (case side2 => exact (Kd.R_reads' HO211.out).2.1); (case side3 => repeat (first | exact (Kd.R_reads' HO215.out).2.2 | (with_reducible refine Kd.C_alloc ?_ _) | (with_reducible refine Kd.C_drewN ?_ _) | (with_reducible refine Kd.C_drew ?_))); (case side4 => exact (Kd.R_reads' HO215.out).2.1); rintro e w22 ⟨rfl, hb⟩; have n0_ := Aside0.mk (Kd.R_below (by (with_reducible repeat (first | apply Kd.R_alloc | apply Kd.R_drewN | apply Kd.R_drew)); exact HO211.out) hb); have n1_ := Aside0.mk (Kd.R_below (by (with_reducible repeat (first | apply Kd.R_alloc | apply Kd.R_drewN | apply Kd.R_drew)); exact HO215.out) hb); have n2_ := Aside0.mk (blk_below (g := gb212) (o := .cells #[.int .i64 t206, .int .i64 t207, .int .i64 t208, .slice Ao18 t209.length co18] 27 (0, 0)) (by (with_reducible repeat (first | refine blk_drewN ?_ _ | refine blk_drew ?_ | refine blk_alloc ?_ _)); exact BK212.out) hb); have n3_ := Aside0.mk (below_step (by repeat (first | (with_reducible first | exact HB.out | apply below_alloc | apply pw_below_drewN | apply below_drew1 | refine below_set ?_ GE212.out) | exact HB.out)) hb); clear HO211; clear HO215; clear BK212; clear HB; have HO211 := n0_; have HO215 := n1_; have BK212 := n2_; have HB := n3_; clear n0_ n1_ n2_ n3_; (try clear hb); (try clear hb2); (try clear hk); (try clear hi); have hcz23_0 : w22.cell? ⟨gb212, 0, none⟩ = some (.int .i64 t206) := (blk_cell BK212.out 0).trans rfl; have hcz23_1 : w22.cell? ⟨gb212, 1, none⟩ = some (.int .i64 t207) := (blk_cell BK212.out 1).trans rfl; have hcz23_2 : w22.cell? ⟨gb212, 2, none⟩ = some (.int .i64 t208) := (blk_cell BK212.out 2).trans rfl; have hcz23_3 : w22.cell? ⟨gb212, 3, none⟩ = some (.slice Ao18 t209.length co18) := (blk_cell BK212.out 3).trans rfl; have hfz23_0 := blk_frozen BK212.out 0; have hfz23_1 := blk_frozen BK212.out 1; have hfz23_2 := blk_frozen BK212.out 2; have hfz23_3 := blk_frozen BK212.out 3) | (go_at_call 8; (with_reducible refine (flow_Excess.calls k t206 t207 t208 _ _ t209 _ _ t213 t207 t218 t219 _ ?side1 ?side2 ?side3 ?side4 A10.out).mono ?_); (case side1 => repeat (first | exact (Kd.R_reads' HO211.out).2.2 | (with_reducible refine Kd.C_alloc ?_ _) | (with_reducible refine Kd.C_drewN ?_ _) | (with_reducible refine Kd.C_drew ?_))); (case side2 => exact (Kd.R_reads' HO211.out).2.1); (case side3 => repeat (first | exact (Kd.R_reads' HO215.out).2.2 | (with_reducible refine Kd.C_alloc ?_ _) | (with_reducible refine Kd.C_drewN ?_ _) | (with_reducible refine Kd.C_drew ?_))); (case side4 => exact (Kd.R_reads' HO215.out).2.1); rintro e w24 ⟨rfl, hb⟩; have n0_ := Aside0.mk (Kd.R_below (by (with_reducible repeat (first | apply Kd.R_alloc | apply Kd.R_drewN | apply Kd.R_drew)); exact HO211.out) hb); have n1_ := Aside0.mk (Kd.R_below (by (with_reducible repeat (first | apply Kd.R_alloc | apply Kd.R_drewN | apply Kd.R_drew)); exact HO215.out) hb); have n2_ := Aside0.mk (blk_below (g := gb212) (o := .cells #[.int .i64 t206, .int .i64 t207, .int .i64 t208, .slice Ao18 t209.length co18] 27 (0, 0)) (by (with_reducible repeat (first | refine blk_drewN ?_ _ | refine blk_drew ?_ | refine blk_alloc ?_ _)); exact BK212.out) hb); have n3_ := Aside0.mk (below_step (by repeat (first | (with_reducible first | exact HB.out | apply below_alloc | apply pw_below_drewN | apply below_drew1 | refine below_set ?_ GE212.out) | exact HB.out)) hb); clear HO211; clear HO215; clear BK212; clear HB; have HO211 := n0_; have HO215 := n1_; have BK212 := n2_; have HB := n3_; clear n0_ n1_ n2_ n3_; (try clear hb); (try clear hb2); (try clear hk); (try clear hi); have hcz25_0 : w24.cell? ⟨gb212, 0, none⟩ = some (.int .i64 t206) := (blk_cell BK212.out 0).trans rfl; have hcz25_1 : w24.cell? ⟨gb212, 1, none⟩ = some (.int .i64 t207) := (blk_cell BK212.out 1).trans rfl; have hcz25_2 : w24.cell? ⟨gb212, 2, none⟩ = some (.int .i64 t208) := (blk_cell BK212.out 2).trans rfl; have hcz25_3 : w24.cell? ⟨gb212, 3, none⟩ = some (.slice Ao18 t209.length co18) := (blk_cell BK212.out 3).trans rfl; have hfz25_0 := blk_frozen BK212.out 0; have hfz25_1 := blk_frozen BK212.out 1; have hfz25_2 := blk_frozen BK212.out 2; have hfz25_3 := blk_frozen BK212.out 3) | (go_at_call 9; (with_reducible refine (net_Turn.calls t206 t207 t208 _ _ t209 t220 t221 t222 t223 _ ?side1 ?side2 A11.out).mono ?_); (case side1 => repeat (first | exact (Kd.R_reads' HO211.out).2.2 | (with_reducible refine Kd.C_alloc ?_ _) | (with_reducible refine Kd.C_drewN ?_ _) | (with_reducible refine Kd.C_drew ?_))); (case side2 => exact (Kd.R_reads' HO211.out).2.1); rintro e w26 ⟨v224, rfl, ho0, hb⟩; have n0_ := Aside0.mk (Kd.R_elder' (by (with_reducible repeat (first | apply Kd.R_alloc | apply Kd.R_drewN | apply Kd.R_drew)); exact HO211.out) (Kd.R_base ho0) hb); have n1_ := Aside0.mk (Kd.R_below (by (with_reducible repeat (first | apply Kd.R_alloc | apply Kd.R_drewN | apply Kd.R_drew)); exact HO215.out) hb); have n2_ := Aside0.mk (Kd.R_lower (Kd.R_new' ho0 (Kd.R_lt (by (with_reducible repeat (first | apply Kd.R_alloc | apply Kd.R_drewN | apply Kd.R_drew)); exact HO211.out))) (below_size (by repeat (first | (with_reducible first | exact HB.out | apply below_alloc | apply pw_below_drewN | apply below_drew1 | refine below_set ?_ GE212.out) | exact HB.out)))); have n3_ := Aside0.mk (blk_below (g := gb212) (o := .cells #[.int .i64 t206, .int .i64 t207, .int .i64 t208, .slice Ao18 t209.length co18] 27 (0, 0)) (by (with_reducible repeat (first | refine blk_drewN ?_ _ | refine blk_drew ?_ | refine blk_alloc ?_ _)); exact BK212.out) hb); have n4_ := Aside0.mk (below_step (by repeat (first | (with_reducible first | exact HB.out | apply below_alloc | apply pw_below_drewN | apply below_drew1 | refine below_set ?_ GE212.out) | exact HB.out)) hb); clear HO211; clear HO215; clear BK212; clear HB; have HO211 := n0_; have HO215 := n1_; have HO225 := n2_; have BK212 := n3_; have HB := n4_; clear n0_ n1_ n2_ n3_ n4_; (try clear hb); (try clear hb2); (try clear hk); (try clear hi); (try clear ho0); obtain ⟨Ao27, co27, eo27⟩ := Kd.R_slice HO225.out; subst eo27) | (go_at_call 7; (with_reducible refine (flow_Value.calls k t220 t221 t222 _ _ t223 _ _ t213 t226 t227 _ ?side1 ?side2 ?side3 ?side4 A12.out).mono ?_); (case side1 => repeat (first | exact (Kd.R_reads' HO225.out).2.2 | (with_reducible refine Kd.C_alloc ?_ _) | (with_reducible refine Kd.C_drewN ?_ _) | (with_reducible refine Kd.C_drew ?_))); (case side2 => exact (Kd.R_reads' HO225.out).2.1); (case side3 => repeat (first | exact (Kd.R_reads' HO215.out).2.2 | (with_reducible refine Kd.C_alloc ?_ _) | (with_reducible refine Kd.C_drewN ?_ _) | (with_reducible refine Kd.C_drew ?_))); (case side4 => exact (Kd.R_reads' HO215.out).2.1); rintro e w28 ⟨rfl, hb⟩; have n0_ := Aside0.mk (Kd.R_below (by (with_reducible repeat (first | apply Kd.R_alloc | apply Kd.R_drewN | apply Kd.R_drew)); exact HO211.out) hb); have n1_ := Aside0.mk (Kd.R_below (by (with_reducible repeat (first | apply Kd.R_alloc | apply Kd.R_drewN | apply Kd.R_drew)); exact HO215.out) hb); have n2_ := Aside0.mk (Kd.R_below (by (with_reducible repeat (first | apply Kd.R_alloc | apply Kd.R_drewN | apply Kd.R_drew)); exact HO225.out) hb); have n3_ := Aside0.mk (blk_below (g := gb212) (o := .cells #[.int .i64 t206, .int .i64 t207, .int .i64 t208, .slice Ao18 t209.length co18] 27 (0, 0)) (by (with_reducible repeat (first | refine blk_drewN ?_ _ | refine blk_drew ?_ | refine blk_alloc ?_ _)); exact BK212.out) hb); have n4_ := Aside0.mk (below_step (by repeat (first | (with_reducible first | exact HB.out | apply below_alloc | apply pw_below_drewN | apply below_drew1 | refine below_set ?_ GE212.out) | exact HB.out)) hb); clear HO211; clear HO215; clear HO225; clear BK212; clear HB; have HO211 := n0_; have HO215 := n1_; have HO225 := n2_; have BK212 := n3_; have HB := n4_; clear n0_ n1_ n2_ n3_ n4_; (try clear hb); (try clear hb2); (try clear hk); (try clear hi)))
    repeat (go_quiet (first | (go_at_call 4; (with_reducible refine (racewaylaw5_shown.calls k  true _ A5.out).mono ?_); rintro e w14 ⟨rfl, hb⟩; have n0_ := Aside0.mk (below_step (by repeat (first | (with_reducible first | exact HB.out | apply below_alloc | apply pw_below_drewN | apply below_drew1) | exact HB.out)) hb); clear HB; have HB := n0_; clear n0_; (try clear hb); (try clear hb2); (try clear hk); (try clear hi)) | (go_at_call 5; (with_reducible refine (racewaylaw5_made.calls k a0 a1 _ _ l2 t206 t207 t208 t209 _ ?side1 ?side2 A7.out).mono ?_); (case side1 => repeat (first | exact (Kd.C_below HR2.out HB.out) | (with_reducible refine Kd.C_alloc ?_ _) | (with_reducible refine Kd.C_drewN ?_ _) | (with_reducible refine Kd.C_drew ?_))); (case side2 => exact HC2.out); rintro e w15 ⟨v210, rfl, ho0, hb⟩; have n0_ := Aside0.mk (Kd.R_lower ho0 (below_size (by repeat (first | (with_reducible first | exact HB.out | apply below_alloc | apply pw_below_drewN | apply below_drew1) | exact HB.out)))); have n1_ := Aside0.mk (below_step (by repeat (first | (with_reducible first | exact HB.out | apply below_alloc | apply pw_below_drewN | apply below_drew1) | exact HB.out)) hb); clear HB; have HO211 := n0_; have HB := n1_; clear n0_ n1_; (try clear hb); (try clear hb2); (try clear hk); (try clear hi); (try clear ho0)) | ((with_reducible refine gate_dst (N := 10) rfl ?_); refine box_event ?hg (N := 10) ?hd (cs := #[.int .i64 0, .int .i64 0, .int .i64 0, .slice none 0 0]) (t := 27) ?hr ?_; (case hd => rfl); (case hg => rfl); (case hr => first | (go_simp; done) | (go_simp; rfl)); intro gb212 hg w16 hbox hb; have n0_ := Aside0.mk (Kd.R_below (by (with_reducible repeat (first | apply Kd.R_alloc | apply Kd.R_drewN | apply Kd.R_drew)); exact HO211.out) hb); have n1_ := Aside0.mk (below_step (by repeat (first | (with_reducible first | exact HB.out | apply below_alloc | apply pw_below_drewN | apply below_drew1) | exact HB.out)) hb); have n2_ := Aside0.mk (hbox); have n3_ := Aside0.mk ((by rw [hg]; exact (below_size (by repeat (first | (with_reducible first | exact HB.out | apply below_alloc | apply pw_below_drewN | apply below_drew1) | exact HB.out))) : w.heap.size ≤ gb212)); have n4_ := Aside0.mk ((by rw [hg]; exact (below_size (by repeat (first | (with_reducible first | exact HB.out | apply below_alloc | apply pw_below_drewN | apply below_drew1) | exact HB.out))) : w.heap.size ≤ gb212)); clear HO211; clear HB; have HO211 := n0_; have HB := n1_; have BK212 := n2_; have GW212 := n3_; have GE212 := n4_; clear n0_ n1_ n2_ n3_ n4_; clear hb hbox hg; have hcz17_0 : w16.cell? ⟨gb212, 0, none⟩ = some (.int .i64 0) := (blk_cell BK212.out 0).trans rfl; have hcz17_1 : w16.cell? ⟨gb212, 1, none⟩ = some (.int .i64 0) := (blk_cell BK212.out 1).trans rfl; have hcz17_2 : w16.cell? ⟨gb212, 2, none⟩ = some (.int .i64 0) := (blk_cell BK212.out 2).trans rfl; have hcz17_3 : w16.cell? ⟨gb212, 3, none⟩ = some (.slice none 0 0) := (blk_cell BK212.out 3).trans rfl; have hfz17_0 := blk_frozen BK212.out 0; have hfz17_1 := blk_frozen BK212.out 1; have hfz17_2 := blk_frozen BK212.out 2; have hfz17_3 := blk_frozen BK212.out 3; obtain ⟨Ao18, co18, eo18⟩ := Kd.R_slice HO211.out; subst eo18) | (go_at_call 6; (with_reducible refine (racewaylaw5_routed.calls k t206 t207 t208 _ _ t209 _ _ l3 t213 _ ?side1 ?side2 ?side3 ?side4 A8.out).mono ?_); (case side1 => refine (Kd.R_reads' (e := 38) (base := w.heap.size) (ok := fun k_ => True) (n := t209.length) (c := co18) ?_).2.2; exact (by (with_reducible repeat (first | apply Kd.R_alloc | apply Kd.R_drewN | apply Kd.R_drew)); exact (Kd.R_mono (Kd.R_far (p := ⟨gb212, 3, none⟩) (Kd.R_far (p := ⟨gb212, 2, none⟩) (Kd.R_far (p := ⟨gb212, 1, none⟩) (Kd.R_far (p := ⟨gb212, 0, none⟩) (Kd.R_types HO211.out BK212.out (by decide)) (fun _ hk => hk.2) (.int .i64 t206)) (fun _ hk => hk.2) (.int .i64 t207)) (fun _ hk => hk.2) (.int .i64 t208)) (fun _ hk => hk.2) (.slice Ao18 t209.length co18)) (fun _ h_ => h_.1)))); (case side2 => exact (Kd.R_reads' HO211.out).2.1); (case side3 => exact Kd.C_below HR3.out (by repeat (first | (with_reducible first | exact HB.out | apply below_alloc | apply pw_below_drewN | apply below_drew1 | refine below_set ?_ GE212.out) | exact HB.out))); (case side4 => exact HC3.out); rintro e w19 ⟨v214, rfl, ho0, hb⟩; have n0_ := Aside0.mk (Kd.R_below (by (with_reducible repeat (first | apply Kd.R_alloc | apply Kd.R_drewN | apply Kd.R_drew)); exact (Kd.R_mono (Kd.R_far (p := ⟨gb212, 3, none⟩) (Kd.R_far (p := ⟨gb212, 2, none⟩) (Kd.R_far (p := ⟨gb212, 1, none⟩) (Kd.R_far (p := ⟨gb212, 0, none⟩) (Kd.R_types HO211.out BK212.out (by decide)) (fun _ hk => hk.2) (.int .i64 t206)) (fun _ hk => hk.2) (.int .i64 t207)) (fun _ hk => hk.2) (.int .i64 t208)) (fun _ hk => hk.2) (.slice Ao18 t209.length co18)) (fun _ h_ => h_.1))) hb); have n1_ := Aside0.mk (Kd.R_lower ho0 (below_size (by repeat (first | (with_reducible first | exact HB.out | apply below_alloc | apply pw_below_drewN | apply below_drew1 | refine below_set ?_ GE212.out) | exact HB.out)))); have n2_ := Aside0.mk (blk_below (g := gb212) (o := .cells #[.int .i64 t206, .int .i64 t207, .int .i64 t208, .slice Ao18 t209.length co18] 27 (0, 0)) (by (with_reducible repeat (first | refine blk_drewN ?_ _ | refine blk_drew ?_ | refine blk_alloc ?_ _)); refine blk_put (cs := #[.int .i64 t206, .int .i64 t207, .int .i64 t208, .slice none 0 0]) ?_ 3 _ rfl; (with_reducible repeat (first | refine blk_drewN ?_ _ | refine blk_drew ?_ | refine blk_alloc ?_ _)); refine blk_put (cs := #[.int .i64 t206, .int .i64 t207, .int .i64 0, .slice none 0 0]) ?_ 2 _ rfl; (with_reducible repeat (first | refine blk_drewN ?_ _ | refine blk_drew ?_ | refine blk_alloc ?_ _)); refine blk_put (cs := #[.int .i64 t206, .int .i64 0, .int .i64 0, .slice none 0 0]) ?_ 1 _ rfl; (with_reducible repeat (first | refine blk_drewN ?_ _ | refine blk_drew ?_ | refine blk_alloc ?_ _)); refine blk_put (cs := #[.int .i64 0, .int .i64 0, .int .i64 0, .slice none 0 0]) ?_ 0 _ rfl; (with_reducible repeat (first | refine blk_drewN ?_ _ | refine blk_drew ?_ | refine blk_alloc ?_ _)); exact BK212.out) hb); have n3_ := Aside0.mk (below_step (by repeat (first | (with_reducible first | exact HB.out | apply below_alloc | apply pw_below_drewN | apply below_drew1 | refine below_set ?_ GE212.out) | exact HB.out)) hb); clear HO211; clear BK212; clear HB; have HO211 := n0_; have HO215 := n1_; have BK212 := n2_; have HB := n3_; clear n0_ n1_ n2_ n3_; (try clear hb); (try clear hb2); (try clear hk); (try clear hi); (try clear ho0); have hcz20_0 : w19.cell? ⟨gb212, 0, none⟩ = some (.int .i64 t206) := (blk_cell BK212.out 0).trans rfl; have hcz20_1 : w19.cell? ⟨gb212, 1, none⟩ = some (.int .i64 t207) := (blk_cell BK212.out 1).trans rfl; have hcz20_2 : w19.cell? ⟨gb212, 2, none⟩ = some (.int .i64 t208) := (blk_cell BK212.out 2).trans rfl; have hcz20_3 : w19.cell? ⟨gb212, 3, none⟩ = some (.slice Ao18 t209.length co18) := (blk_cell BK212.out 3).trans rfl; have hfz20_0 := blk_frozen BK212.out 0; have hfz20_1 := blk_frozen BK212.out 1; have hfz20_2 := blk_frozen BK212.out 2; have hfz20_3 := blk_frozen BK212.out 3; obtain ⟨Ao21, co21, eo21⟩ := Kd.R_slice HO215.out; subst eo21) | (go_at_call 7; (with_reducible refine (flow_Value.calls k t206 t207 t208 _ _ t209 _ _ t213 t216 t217 _ ?side1 ?side2 ?side3 ?side4 A9.out).mono ?_); (case side1 => repeat (first | exact (Kd.R_reads' HO211.out).2.2 | (with_reducible refine Kd.C_alloc ?_ _) | (with_reducible refine Kd.C_drewN ?_ _) | (with_reducible refine Kd.C_drew ?_))); (case side2 => exact (Kd.R_reads' HO211.out).2.1); (case side3 => repeat (first | exact (Kd.R_reads' HO215.out).2.2 | (with_reducible refine Kd.C_alloc ?_ _) | (with_reducible refine Kd.C_drewN ?_ _) | (with_reducible refine Kd.C_drew ?_))); (case side4 => exact (Kd.R_reads' HO215.out).2.1); rintro e w22 ⟨rfl, hb⟩; have n0_ := Aside0.mk (Kd.R_below (by (with_reducible repeat (first | apply Kd.R_alloc | apply Kd.R_drewN | apply Kd.R_drew)); exact HO211.out) hb); have n1_ := Aside0.mk (Kd.R_below (by (with_reducible repeat (first | apply Kd.R_alloc | apply Kd.R_drewN | apply Kd.R_drew)); exact HO215.out) hb); have n2_ := Aside0.mk (blk_below (g := gb212) (o := .cells #[.int .i64 t206, .int .i64 t207, .int .i64 t208, .slice Ao18 t209.length co18] 27 (0, 0)) (by (with_reducible repeat (first | refine blk_drewN ?_ _ | refine blk_drew ?_ | refine blk_alloc ?_ _)); exact BK212.out) hb); have n3_ := Aside0.mk (below_step (by repeat (first | (with_reducible first | exact HB.out | apply below_alloc | apply pw_below_drewN | apply below_drew1 | refine below_set ?_ GE212.out) | exact HB.out)) hb); clear HO211; clear HO215; clear BK212; clear HB; have HO211 := n0_; have HO215 := n1_; have BK212 := n2_; have HB := n3_; clear n0_ n1_ n2_ n3_; (try clear hb); (try clear hb2); (try clear hk); (try clear hi); have hcz23_0 : w22.cell? ⟨gb212, 0, none⟩ = some (.int .i64 t206) := (blk_cell BK212.out 0).trans rfl; have hcz23_1 : w22.cell? ⟨gb212, 1, none⟩ = some (.int .i64 t207) := (blk_cell BK212.out 1).trans rfl; have hcz23_2 : w22.cell? ⟨gb212, 2, none⟩ = some (.int .i64 t208) := (blk_cell BK212.out 2).trans rfl; have hcz23_3 : w22.cell? ⟨gb212, 3, none⟩ = some (.slice Ao18 t209.length co18) := (blk_cell BK212.out 3).trans rfl; have hfz23_0 := blk_frozen BK212.out 0; have hfz23_1 := blk_frozen BK212.out 1; have hfz23_2 := blk_frozen BK212.out 2; have hfz23_3 := blk_frozen BK212.out 3) | (go_at_call 8; (with_reducible refine (flow_Excess.calls k t206 t207 t208 _ _ t209 _ _ t213 t207 t218 t219 _ ?side1 ?side2 ?side3 ?side4 A10.out).mono ?_); (case side1 => repeat (first | exact (Kd.R_reads' HO211.out).2.2 | (with_reducible refine Kd.C_alloc ?_ _) | (with_reducible refine Kd.C_drewN ?_ _) | (with_reducible refine Kd.C_drew ?_))); (case side2 => exact (Kd.R_reads' HO211.out).2.1); (case side3 => repeat (first | exact (Kd.R_reads' HO215.out).2.2 | (with_reducible refine Kd.C_alloc ?_ _) | (with_reducible refine Kd.C_drewN ?_ _) | (with_reducible refine Kd.C_drew ?_))); (case side4 => exact (Kd.R_reads' HO215.out).2.1); rintro e w24 ⟨rfl, hb⟩; have n0_ := Aside0.mk (Kd.R_below (by (with_reducible repeat (first | apply Kd.R_alloc | apply Kd.R_drewN | apply Kd.R_drew)); exact HO211.out) hb); have n1_ := Aside0.mk (Kd.R_below (by (with_reducible repeat (first | apply Kd.R_alloc | apply Kd.R_drewN | apply Kd.R_drew)); exact HO215.out) hb); have n2_ := Aside0.mk (blk_below (g := gb212) (o := .cells #[.int .i64 t206, .int .i64 t207, .int .i64 t208, .slice Ao18 t209.length co18] 27 (0, 0)) (by (with_reducible repeat (first | refine blk_drewN ?_ _ | refine blk_drew ?_ | refine blk_alloc ?_ _)); exact BK212.out) hb); have n3_ := Aside0.mk (below_step (by repeat (first | (with_reducible first | exact HB.out | apply below_alloc | apply pw_below_drewN | apply below_drew1 | refine below_set ?_ GE212.out) | exact HB.out)) hb); clear HO211; clear HO215; clear BK212; clear HB; have HO211 := n0_; have HO215 := n1_; have BK212 := n2_; have HB := n3_; clear n0_ n1_ n2_ n3_; (try clear hb); (try clear hb2); (try clear hk); (try clear hi); have hcz25_0 : w24.cell? ⟨gb212, 0, none⟩ = some (.int .i64 t206) := (blk_cell BK212.out 0).trans rfl; have hcz25_1 : w24.cell? ⟨gb212, 1, none⟩ = some (.int .i64 t207) := (blk_cell BK212.out 1).trans rfl; have hcz25_2 : w24.cell? ⟨gb212, 2, none⟩ = some (.int .i64 t208) := (blk_cell BK212.out 2).trans rfl; have hcz25_3 : w24.cell? ⟨gb212, 3, none⟩ = some (.slice Ao18 t209.length co18) := (blk_cell BK212.out 3).trans rfl; have hfz25_0 := blk_frozen BK212.out 0; have hfz25_1 := blk_frozen BK212.out 1; have hfz25_2 := blk_frozen BK212.out 2; have hfz25_3 := blk_frozen BK212.out 3) | (go_at_call 9; (with_reducible refine (net_Turn.calls t206 t207 t208 _ _ t209 t220 t221 t222 t223 _ ?side1 ?side2 A11.out).mono ?_); (case side1 => repeat (first | exact (Kd.R_reads' HO211.out).2.2 | (with_reducible refine Kd.C_alloc ?_ _) | (with_reducible refine Kd.C_drewN ?_ _) | (with_reducible refine Kd.C_drew ?_))); (case side2 => exact (Kd.R_reads' HO211.out).2.1); rintro e w26 ⟨v224, rfl, ho0, hb⟩; have n0_ := Aside0.mk (Kd.R_elder' (by (with_reducible repeat (first | apply Kd.R_alloc | apply Kd.R_drewN | apply Kd.R_drew)); exact HO211.out) (Kd.R_base ho0) hb); have n1_ := Aside0.mk (Kd.R_below (by (with_reducible repeat (first | apply Kd.R_alloc | apply Kd.R_drewN | apply Kd.R_drew)); exact HO215.out) hb); have n2_ := Aside0.mk (Kd.R_lower (Kd.R_new' ho0 (Kd.R_lt (by (with_reducible repeat (first | apply Kd.R_alloc | apply Kd.R_drewN | apply Kd.R_drew)); exact HO211.out))) (below_size (by repeat (first | (with_reducible first | exact HB.out | apply below_alloc | apply pw_below_drewN | apply below_drew1 | refine below_set ?_ GE212.out) | exact HB.out)))); have n3_ := Aside0.mk (blk_below (g := gb212) (o := .cells #[.int .i64 t206, .int .i64 t207, .int .i64 t208, .slice Ao18 t209.length co18] 27 (0, 0)) (by (with_reducible repeat (first | refine blk_drewN ?_ _ | refine blk_drew ?_ | refine blk_alloc ?_ _)); exact BK212.out) hb); have n4_ := Aside0.mk (below_step (by repeat (first | (with_reducible first | exact HB.out | apply below_alloc | apply pw_below_drewN | apply below_drew1 | refine below_set ?_ GE212.out) | exact HB.out)) hb); clear HO211; clear HO215; clear BK212; clear HB; have HO211 := n0_; have HO215 := n1_; have HO225 := n2_; have BK212 := n3_; have HB := n4_; clear n0_ n1_ n2_ n3_ n4_; (try clear hb); (try clear hb2); (try clear hk); (try clear hi); (try clear ho0); obtain ⟨Ao27, co27, eo27⟩ := Kd.R_slice HO225.out; subst eo27) | (go_at_call 7; (with_reducible refine (flow_Value.calls k t220 t221 t222 _ _ t223 _ _ t213 t226 t227 _ ?side1 ?side2 ?side3 ?side4 A12.out).mono ?_); (case side1 => repeat (first | exact (Kd.R_reads' HO225.out).2.2 | (with_reducible refine Kd.C_alloc ?_ _) | (with_reducible refine Kd.C_drewN ?_ _) | (with_reducible refine Kd.C_drew ?_))); (case side2 => exact (Kd.R_reads' HO225.out).2.1); (case side3 => repeat (first | exact (Kd.R_reads' HO215.out).2.2 | (with_reducible refine Kd.C_alloc ?_ _) | (with_reducible refine Kd.C_drewN ?_ _) | (with_reducible refine Kd.C_drew ?_))); (case side4 => exact (Kd.R_reads' HO215.out).2.1); rintro e w28 ⟨rfl, hb⟩; have n0_ := Aside0.mk (Kd.R_below (by (with_reducible repeat (first | apply Kd.R_alloc | apply Kd.R_drewN | apply Kd.R_drew)); exact HO211.out) hb); have n1_ := Aside0.mk (Kd.R_below (by (with_reducible repeat (first | apply Kd.R_alloc | apply Kd.R_drewN | apply Kd.R_drew)); exact HO215.out) hb); have n2_ := Aside0.mk (Kd.R_below (by (with_reducible repeat (first | apply Kd.R_alloc | apply Kd.R_drewN | apply Kd.R_drew)); exact HO225.out) hb); have n3_ := Aside0.mk (blk_below (g := gb212) (o := .cells #[.int .i64 t206, .int .i64 t207, .int .i64 t208, .slice Ao18 t209.length co18] 27 (0, 0)) (by (with_reducible repeat (first | refine blk_drewN ?_ _ | refine blk_drew ?_ | refine blk_alloc ?_ _)); exact BK212.out) hb); have n4_ := Aside0.mk (below_step (by repeat (first | (with_reducible first | exact HB.out | apply below_alloc | apply pw_below_drewN | apply below_drew1 | refine below_set ?_ GE212.out) | exact HB.out)) hb); clear HO211; clear HO215; clear HO225; clear BK212; clear HB; have HO211 := n0_; have HO215 := n1_; have HO225 := n2_; have BK212 := n3_; have HB := n4_; clear n0_ n1_ n2_ n3_ n4_; (try clear hb); (try clear hb2); (try clear hk); (try clear hi))); go_upto_region 9 with (first | (go_at_call 4; (with_reducible refine (racewaylaw5_shown.calls k  true _ A5.out).mono ?_); rintro e w14 ⟨rfl, hb⟩; have n0_ := Aside0.mk (below_step (by repeat (first | (with_reducible first | exact HB.out | apply below_alloc | apply pw_below_drewN | apply below_drew1) | exact HB.out)) hb); clear HB; have HB := n0_; clear n0_; (try clear hb); (try clear hb2); (try clear hk); (try clear hi)) | (go_at_call 5; (with_reducible refine (racewaylaw5_made.calls k a0 a1 _ _ l2 t206 t207 t208 t209 _ ?side1 ?side2 A7.out).mono ?_); (case side1 => repeat (first | exact (Kd.C_below HR2.out HB.out) | (with_reducible refine Kd.C_alloc ?_ _) | (with_reducible refine Kd.C_drewN ?_ _) | (with_reducible refine Kd.C_drew ?_))); (case side2 => exact HC2.out); rintro e w15 ⟨v210, rfl, ho0, hb⟩; have n0_ := Aside0.mk (Kd.R_lower ho0 (below_size (by repeat (first | (with_reducible first | exact HB.out | apply below_alloc | apply pw_below_drewN | apply below_drew1) | exact HB.out)))); have n1_ := Aside0.mk (below_step (by repeat (first | (with_reducible first | exact HB.out | apply below_alloc | apply pw_below_drewN | apply below_drew1) | exact HB.out)) hb); clear HB; have HO211 := n0_; have HB := n1_; clear n0_ n1_; (try clear hb); (try clear hb2); (try clear hk); (try clear hi); (try clear ho0)) | ((with_reducible refine gate_dst (N := 10) rfl ?_); refine box_event ?hg (N := 10) ?hd (cs := #[.int .i64 0, .int .i64 0, .int .i64 0, .slice none 0 0]) (t := 27) ?hr ?_; (case hd => rfl); (case hg => rfl); (case hr => first | (go_simp; done) | (go_simp; rfl)); intro gb212 hg w16 hbox hb; have n0_ := Aside0.mk (Kd.R_below (by (with_reducible repeat (first | apply Kd.R_alloc | apply Kd.R_drewN | apply Kd.R_drew)); exact HO211.out) hb); have n1_ := Aside0.mk (below_step (by repeat (first | (with_reducible first | exact HB.out | apply below_alloc | apply pw_below_drewN | apply below_drew1) | exact HB.out)) hb); have n2_ := Aside0.mk (hbox); have n3_ := Aside0.mk ((by rw [hg]; exact (below_size (by repeat (first | (with_reducible first | exact HB.out | apply below_alloc | apply pw_below_drewN | apply below_drew1) | exact HB.out))) : w.heap.size ≤ gb212)); have n4_ := Aside0.mk ((by rw [hg]; exact (below_size (by repeat (first | (with_reducible first | exact HB.out | apply below_alloc | apply pw_below_drewN | apply below_drew1) | exact HB.out))) : w.heap.size ≤ gb212)); clear HO211; clear HB; have HO211 := n0_; have HB := n1_; have BK212 := n2_; have GW212 := n3_; have GE212 := n4_; clear n0_ n1_ n2_ n3_ n4_; clear hb hbox hg; have hcz17_0 : w16.cell? ⟨gb212, 0, none⟩ = some (.int .i64 0) := (blk_cell BK212.out 0).trans rfl; have hcz17_1 : w16.cell? ⟨gb212, 1, none⟩ = some (.int .i64 0) := (blk_cell BK212.out 1).trans rfl; have hcz17_2 : w16.cell? ⟨gb212, 2, none⟩ = some (.int .i64 0) := (blk_cell BK212.out 2).trans rfl; have hcz17_3 : w16.cell? ⟨gb212, 3, none⟩ = some (.slice none 0 0) := (blk_cell BK212.out 3).trans rfl; have hfz17_0 := blk_frozen BK212.out 0; have hfz17_1 := blk_frozen BK212.out 1; have hfz17_2 := blk_frozen BK212.out 2; have hfz17_3 := blk_frozen BK212.out 3; obtain ⟨Ao18, co18, eo18⟩ := Kd.R_slice HO211.out; subst eo18) | (go_at_call 6; (with_reducible refine (racewaylaw5_routed.calls k t206 t207 t208 _ _ t209 _ _ l3 t213 _ ?side1 ?side2 ?side3 ?side4 A8.out).mono ?_); (case side1 => refine (Kd.R_reads' (e := 38) (base := w.heap.size) (ok := fun k_ => True) (n := t209.length) (c := co18) ?_).2.2; exact (by (with_reducible repeat (first | apply Kd.R_alloc | apply Kd.R_drewN | apply Kd.R_drew)); exact (Kd.R_mono (Kd.R_far (p := ⟨gb212, 3, none⟩) (Kd.R_far (p := ⟨gb212, 2, none⟩) (Kd.R_far (p := ⟨gb212, 1, none⟩) (Kd.R_far (p := ⟨gb212, 0, none⟩) (Kd.R_types HO211.out BK212.out (by decide)) (fun _ hk => hk.2) (.int .i64 t206)) (fun _ hk => hk.2) (.int .i64 t207)) (fun _ hk => hk.2) (.int .i64 t208)) (fun _ hk => hk.2) (.slice Ao18 t209.length co18)) (fun _ h_ => h_.1)))); (case side2 => exact (Kd.R_reads' HO211.out).2.1); (case side3 => exact Kd.C_below HR3.out (by repeat (first | (with_reducible first | exact HB.out | apply below_alloc | apply pw_below_drewN | apply below_drew1 | refine below_set ?_ GE212.out) | exact HB.out))); (case side4 => exact HC3.out); rintro e w19 ⟨v214, rfl, ho0, hb⟩; have n0_ := Aside0.mk (Kd.R_below (by (with_reducible repeat (first | apply Kd.R_alloc | apply Kd.R_drewN | apply Kd.R_drew)); exact (Kd.R_mono (Kd.R_far (p := ⟨gb212, 3, none⟩) (Kd.R_far (p := ⟨gb212, 2, none⟩) (Kd.R_far (p := ⟨gb212, 1, none⟩) (Kd.R_far (p := ⟨gb212, 0, none⟩) (Kd.R_types HO211.out BK212.out (by decide)) (fun _ hk => hk.2) (.int .i64 t206)) (fun _ hk => hk.2) (.int .i64 t207)) (fun _ hk => hk.2) (.int .i64 t208)) (fun _ hk => hk.2) (.slice Ao18 t209.length co18)) (fun _ h_ => h_.1))) hb); have n1_ := Aside0.mk (Kd.R_lower ho0 (below_size (by repeat (first | (with_reducible first | exact HB.out | apply below_alloc | apply pw_below_drewN | apply below_drew1 | refine below_set ?_ GE212.out) | exact HB.out)))); have n2_ := Aside0.mk (blk_below (g := gb212) (o := .cells #[.int .i64 t206, .int .i64 t207, .int .i64 t208, .slice Ao18 t209.length co18] 27 (0, 0)) (by (with_reducible repeat (first | refine blk_drewN ?_ _ | refine blk_drew ?_ | refine blk_alloc ?_ _)); refine blk_put (cs := #[.int .i64 t206, .int .i64 t207, .int .i64 t208, .slice none 0 0]) ?_ 3 _ rfl; (with_reducible repeat (first | refine blk_drewN ?_ _ | refine blk_drew ?_ | refine blk_alloc ?_ _)); refine blk_put (cs := #[.int .i64 t206, .int .i64 t207, .int .i64 0, .slice none 0 0]) ?_ 2 _ rfl; (with_reducible repeat (first | refine blk_drewN ?_ _ | refine blk_drew ?_ | refine blk_alloc ?_ _)); refine blk_put (cs := #[.int .i64 t206, .int .i64 0, .int .i64 0, .slice none 0 0]) ?_ 1 _ rfl; (with_reducible repeat (first | refine blk_drewN ?_ _ | refine blk_drew ?_ | refine blk_alloc ?_ _)); refine blk_put (cs := #[.int .i64 0, .int .i64 0, .int .i64 0, .slice none 0 0]) ?_ 0 _ rfl; (with_reducible repeat (first | refine blk_drewN ?_ _ | refine blk_drew ?_ | refine blk_alloc ?_ _)); exact BK212.out) hb); have n3_ := Aside0.mk (below_step (by repeat (first | (with_reducible first | exact HB.out | apply below_alloc | apply pw_below_drewN | apply below_drew1 | refine below_set ?_ GE212.out) | exact HB.out)) hb); clear HO211; clear BK212; clear HB; have HO211 := n0_; have HO215 := n1_; have BK212 := n2_; have HB := n3_; clear n0_ n1_ n2_ n3_; (try clear hb); (try clear hb2); (try clear hk); (try clear hi); (try clear ho0); have hcz20_0 : w19.cell? ⟨gb212, 0, none⟩ = some (.int .i64 t206) := (blk_cell BK212.out 0).trans rfl; have hcz20_1 : w19.cell? ⟨gb212, 1, none⟩ = some (.int .i64 t207) := (blk_cell BK212.out 1).trans rfl; have hcz20_2 : w19.cell? ⟨gb212, 2, none⟩ = some (.int .i64 t208) := (blk_cell BK212.out 2).trans rfl; have hcz20_3 : w19.cell? ⟨gb212, 3, none⟩ = some (.slice Ao18 t209.length co18) := (blk_cell BK212.out 3).trans rfl; have hfz20_0 := blk_frozen BK212.out 0; have hfz20_1 := blk_frozen BK212.out 1; have hfz20_2 := blk_frozen BK212.out 2; have hfz20_3 := blk_frozen BK212.out 3; obtain ⟨Ao21, co21, eo21⟩ := Kd.R_slice HO215.out; subst eo21) | (go_at_call 7; (with_reducible refine (flow_Value.calls k t206 t207 t208 _ _ t209 _ _ t213 t216 t217 _ ?side1 ?side2 ?side3 ?side4 A9.out).mono ?_); (case side1 => repeat (first | exact (Kd.R_reads' HO211.out).2.2 | (with_reducible refine Kd.C_alloc ?_ _) | (with_reducible refine Kd.C_drewN ?_ _) | (with_reducible refine Kd.C_drew ?_))); (case side2 => exact (Kd.R_reads' HO211.out).2.1); (case side3 => repeat (first | exact (Kd.R_reads' HO215.out).2.2 | (with_reducible refine Kd.C_alloc ?_ _) | (with_reducible refine Kd.C_drewN ?_ _) | (with_reducible refine Kd.C_drew ?_))); (case side4 => exact (Kd.R_reads' HO215.out).2.1); rintro e w22 ⟨rfl, hb⟩; have n0_ := Aside0.mk (Kd.R_below (by (with_reducible repeat (first | apply Kd.R_alloc | apply Kd.R_drewN | apply Kd.R_drew)); exact HO211.out) hb); have n1_ := Aside0.mk (Kd.R_below (by (with_reducible repeat (first | apply Kd.R_alloc | apply Kd.R_drewN | apply Kd.R_drew)); exact HO215.out) hb); have n2_ := Aside0.mk (blk_below (g := gb212) (o := .cells #[.int .i64 t206, .int .i64 t207, .int .i64 t208, .slice Ao18 t209.length co18] 27 (0, 0)) (by (with_reducible repeat (first | refine blk_drewN ?_ _ | refine blk_drew ?_ | refine blk_alloc ?_ _)); exact BK212.out) hb); have n3_ := Aside0.mk (below_step (by repeat (first | (with_reducible first | exact HB.out | apply below_alloc | apply pw_below_drewN | apply below_drew1 | refine below_set ?_ GE212.out) | exact HB.out)) hb); clear HO211; clear HO215; clear BK212; clear HB; have HO211 := n0_; have HO215 := n1_; have BK212 := n2_; have HB := n3_; clear n0_ n1_ n2_ n3_; (try clear hb); (try clear hb2); (try clear hk); (try clear hi); have hcz23_0 : w22.cell? ⟨gb212, 0, none⟩ = some (.int .i64 t206) := (blk_cell BK212.out 0).trans rfl; have hcz23_1 : w22.cell? ⟨gb212, 1, none⟩ = some (.int .i64 t207) := (blk_cell BK212.out 1).trans rfl; have hcz23_2 : w22.cell? ⟨gb212, 2, none⟩ = some (.int .i64 t208) := (blk_cell BK212.out 2).trans rfl; have hcz23_3 : w22.cell? ⟨gb212, 3, none⟩ = some (.slice Ao18 t209.length co18) := (blk_cell BK212.out 3).trans rfl; have hfz23_0 := blk_frozen BK212.out 0; have hfz23_1 := blk_frozen BK212.out 1; have hfz23_2 := blk_frozen BK212.out 2; have hfz23_3 := blk_frozen BK212.out 3) | (go_at_call 8; (with_reducible refine (flow_Excess.calls k t206 t207 t208 _ _ t209 _ _ t213 t207 t218 t219 _ ?side1 ?side2 ?side3 ?side4 A10.out).mono ?_); (case side1 => repeat (first | exact (Kd.R_reads' HO211.out).2.2 | (with_reducible refine Kd.C_alloc ?_ _) | (with_reducible refine Kd.C_drewN ?_ _) | (with_reducible refine Kd.C_drew ?_))); (case side2 => exact (Kd.R_reads' HO211.out).2.1); (case side3 => repeat (first | exact (Kd.R_reads' HO215.out).2.2 | (with_reducible refine Kd.C_alloc ?_ _) | (with_reducible refine Kd.C_drewN ?_ _) | (with_reducible refine Kd.C_drew ?_))); (case side4 => exact (Kd.R_reads' HO215.out).2.1); rintro e w24 ⟨rfl, hb⟩; have n0_ := Aside0.mk (Kd.R_below (by (with_reducible repeat (first | apply Kd.R_alloc | apply Kd.R_drewN | apply Kd.R_drew)); exact HO211.out) hb); have n1_ := Aside0.mk (Kd.R_below (by (with_reducible repeat (first | apply Kd.R_alloc | apply Kd.R_drewN | apply Kd.R_drew)); exact HO215.out) hb); have n2_ := Aside0.mk (blk_below (g := gb212) (o := .cells #[.int .i64 t206, .int .i64 t207, .int .i64 t208, .slice Ao18 t209.length co18] 27 (0, 0)) (by (with_reducible repeat (first | refine blk_drewN ?_ _ | refine blk_drew ?_ | refine blk_alloc ?_ _)); exact BK212.out) hb); have n3_ := Aside0.mk (below_step (by repeat (first | (with_reducible first | exact HB.out | apply below_alloc | apply pw_below_drewN | apply below_drew1 | refine below_set ?_ GE212.out) | exact HB.out)) hb); clear HO211; clear HO215; clear BK212; clear HB; have HO211 := n0_; have HO215 := n1_; have BK212 := n2_; have HB := n3_; clear n0_ n1_ n2_ n3_; (try clear hb); (try clear hb2); (try clear hk); (try clear hi); have hcz25_0 : w24.cell? ⟨gb212, 0, none⟩ = some (.int .i64 t206) := (blk_cell BK212.out 0).trans rfl; have hcz25_1 : w24.cell? ⟨gb212, 1, none⟩ = some (.int .i64 t207) := (blk_cell BK212.out 1).trans rfl; have hcz25_2 : w24.cell? ⟨gb212, 2, none⟩ = some (.int .i64 t208) := (blk_cell BK212.out 2).trans rfl; have hcz25_3 : w24.cell? ⟨gb212, 3, none⟩ = some (.slice Ao18 t209.length co18) := (blk_cell BK212.out 3).trans rfl; have hfz25_0 := blk_frozen BK212.out 0; have hfz25_1 := blk_frozen BK212.out 1; have hfz25_2 := blk_frozen BK212.out 2; have hfz25_3 := blk_frozen BK212.out 3) | (go_at_call 9; (with_reducible refine (net_Turn.calls t206 t207 t208 _ _ t209 t220 t221 t222 t223 _ ?side1 ?side2 A11.out).mono ?_); (case side1 => repeat (first | exact (Kd.R_reads' HO211.out).2.2 | (with_reducible refine Kd.C_alloc ?_ _) | (with_reducible refine Kd.C_drewN ?_ _) | (with_reducible refine Kd.C_drew ?_))); (case side2 => exact (Kd.R_reads' HO211.out).2.1); rintro e w26 ⟨v224, rfl, ho0, hb⟩; have n0_ := Aside0.mk (Kd.R_elder' (by (with_reducible repeat (first | apply Kd.R_alloc | apply Kd.R_drewN | apply Kd.R_drew)); exact HO211.out) (Kd.R_base ho0) hb); have n1_ := Aside0.mk (Kd.R_below (by (with_reducible repeat (first | apply Kd.R_alloc | apply Kd.R_drewN | apply Kd.R_drew)); exact HO215.out) hb); have n2_ := Aside0.mk (Kd.R_lower (Kd.R_new' ho0 (Kd.R_lt (by (with_reducible repeat (first | apply Kd.R_alloc | apply Kd.R_drewN | apply Kd.R_drew)); exact HO211.out))) (below_size (by repeat (first | (with_reducible first | exact HB.out | apply below_alloc | apply pw_below_drewN | apply below_drew1 | refine below_set ?_ GE212.out) | exact HB.out)))); have n3_ := Aside0.mk (blk_below (g := gb212) (o := .cells #[.int .i64 t206, .int .i64 t207, .int .i64 t208, .slice Ao18 t209.length co18] 27 (0, 0)) (by (with_reducible repeat (first | refine blk_drewN ?_ _ | refine blk_drew ?_ | refine blk_alloc ?_ _)); exact BK212.out) hb); have n4_ := Aside0.mk (below_step (by repeat (first | (with_reducible first | exact HB.out | apply below_alloc | apply pw_below_drewN | apply below_drew1 | refine below_set ?_ GE212.out) | exact HB.out)) hb); clear HO211; clear HO215; clear BK212; clear HB; have HO211 := n0_; have HO215 := n1_; have HO225 := n2_; have BK212 := n3_; have HB := n4_; clear n0_ n1_ n2_ n3_ n4_; (try clear hb); (try clear hb2); (try clear hk); (try clear hi); (try clear ho0); obtain ⟨Ao27, co27, eo27⟩ := Kd.R_slice HO225.out; subst eo27) | (go_at_call 7; (with_reducible refine (flow_Value.calls k t220 t221 t222 _ _ t223 _ _ t213 t226 t227 _ ?side1 ?side2 ?side3 ?side4 A12.out).mono ?_); (case side1 => repeat (first | exact (Kd.R_reads' HO225.out).2.2 | (with_reducible refine Kd.C_alloc ?_ _) | (with_reducible refine Kd.C_drewN ?_ _) | (with_reducible refine Kd.C_drew ?_))); (case side2 => exact (Kd.R_reads' HO225.out).2.1); (case side3 => repeat (first | exact (Kd.R_reads' HO215.out).2.2 | (with_reducible refine Kd.C_alloc ?_ _) | (with_reducible refine Kd.C_drewN ?_ _) | (with_reducible refine Kd.C_drew ?_))); (case side4 => exact (Kd.R_reads' HO215.out).2.1); rintro e w28 ⟨rfl, hb⟩; have n0_ := Aside0.mk (Kd.R_below (by (with_reducible repeat (first | apply Kd.R_alloc | apply Kd.R_drewN | apply Kd.R_drew)); exact HO211.out) hb); have n1_ := Aside0.mk (Kd.R_below (by (with_reducible repeat (first | apply Kd.R_alloc | apply Kd.R_drewN | apply Kd.R_drew)); exact HO215.out) hb); have n2_ := Aside0.mk (Kd.R_below (by (with_reducible repeat (first | apply Kd.R_alloc | apply Kd.R_drewN | apply Kd.R_drew)); exact HO225.out) hb); have n3_ := Aside0.mk (blk_below (g := gb212) (o := .cells #[.int .i64 t206, .int .i64 t207, .int .i64 t208, .slice Ao18 t209.length co18] 27 (0, 0)) (by (with_reducible repeat (first | refine blk_drewN ?_ _ | refine blk_drew ?_ | refine blk_alloc ?_ _)); exact BK212.out) hb); have n4_ := Aside0.mk (below_step (by repeat (first | (with_reducible first | exact HB.out | apply below_alloc | apply pw_below_drewN | apply below_drew1 | refine below_set ?_ GE212.out) | exact HB.out)) hb); clear HO211; clear HO215; clear HO225; clear BK212; clear HB; have HO211 := n0_; have HO215 := n1_; have HO225 := n2_; have BK212 := n3_; have HB := n4_; clear n0_ n1_ n2_ n3_ n4_; (try clear hb); (try clear hb2); (try clear hk); (try clear hi))))
    (try simp only [Act.put, List.setIfInBounds_toArray, List.set_cons_zero, List.set_cons_succ])
    go_cut [85] (fun v85 wc => ∃ (kq : Nat) (x85_12 : Bool), v85 = .bool x85_12 ∧ Aside0 (racewaylaw5_FlowRoutes.j0 kq t213 t216 x85_12 t206 t207 t208 t209 = some r) ∧ Aside0 (kq ≤ k) ∧ Aside0 (Kd.R (Kd.int .i64) 2 wc w.heap.size (fun _ => True) (.slice Ao21 t213.length co21) t213) ∧ Aside0 (Kd.R k38 38 wc w.heap.size (fun _ => True) (.slice Ao18 t209.length co18) t209) ∧ Aside0 (wc.heap[gb212]? = some (.cells #[.int .i64 t206, .int .i64 t207, .int .i64 t208, (.slice Ao18 t209.length co18)] 27 (0, 0))) ∧ Aside0 (Below w.heap.size w wc))
    case first =>
      have H := HC13.out
      clear HC13
      replace H := Option.bind_eq_some_iff.mp H
      obtain ⟨t228, A290, H⟩ := H
      replace H : (if t228 = 0 then (if t217 = 0 then (if t219 = 0 then (if t227 = 0 then (if t218 = (wrap64 (-t216)) then (if t226 = t216 then (racewaylaw5_FlowRoutes.j0 k t213 t216 (decide (t216 < 0)) t206 t207 t208 t209) else (racewaylaw5_FlowRoutes.j0 k t213 t216 true t206 t207 t208 t209)) else (racewaylaw5_FlowRoutes.j0 k t213 t216 true t206 t207 t208 t209)) else (racewaylaw5_FlowRoutes.j0 k t213 t216 true t206 t207 t208 t209)) else (racewaylaw5_FlowRoutes.j0 k t213 t216 true t206 t207 t208 t209)) else (racewaylaw5_FlowRoutes.j0 k t213 t216 true t206 t207 t208 t209)) else (racewaylaw5_FlowRoutes.j0 k t213 t216 true t206 t207 t208 t209)) = some r := H
      have A29 := Aside0.mk A290
      clear A290
      by_cases c30 : t228 = 0
      · rw [if_pos c30] at H
        have c30b0 : (t228 == 0) = true := beq_iff_eq.mpr c30
        have c30b1 : (t228 != 0) = false := bne_eq_false_iff_eq.mpr c30
        clear c30
        (first | rw [c30b0] | (simp only [i64_w, i32_w]; rw [c30b0]) | skip)
        by_cases c31 : t217 = 0
        · rw [if_pos c31] at H
          have c31b0 : (t217 == 0) = true := beq_iff_eq.mpr c31
          have c31b1 : (t217 != 0) = false := bne_eq_false_iff_eq.mpr c31
          clear c31
          by_cases c32 : t219 = 0
          · rw [if_pos c32] at H
            have c32b0 : (t219 == 0) = true := beq_iff_eq.mpr c32
            have c32b1 : (t219 != 0) = false := bne_eq_false_iff_eq.mpr c32
            clear c32
            by_cases c33 : t227 = 0
            · rw [if_pos c33] at H
              have c33b0 : (t227 == 0) = true := beq_iff_eq.mpr c33
              have c33b1 : (t227 != 0) = false := bne_eq_false_iff_eq.mpr c33
              clear c33
              by_cases c34 : t218 = (wrap64 (-t216))
              · rw [if_pos c34] at H
                have c34b0 : (t218 == (wrap64 (-t216))) = true := beq_iff_eq.mpr c34
                have c34b1 : (t218 != (wrap64 (-t216))) = false := bne_eq_false_iff_eq.mpr c34
                clear c34
                by_cases c35 : t226 = t216
                · rw [if_pos c35] at H
                  have c35b0 : (t226 == t216) = true := beq_iff_eq.mpr c35
                  have c35b1 : (t226 != t216) = false := bne_eq_false_iff_eq.mpr c35
                  clear c35
                  have H' := Aside0.mk H
                  clear H
                  have hcz36_0 : w28.cell? ⟨gb212, 0, none⟩ = some (.int .i64 t206) := (blk_cell BK212.out 0).trans rfl
                  have hcz36_1 : w28.cell? ⟨gb212, 1, none⟩ = some (.int .i64 t207) := (blk_cell BK212.out 1).trans rfl
                  have hcz36_2 : w28.cell? ⟨gb212, 2, none⟩ = some (.int .i64 t208) := (blk_cell BK212.out 2).trans rfl
                  have hcz36_3 : w28.cell? ⟨gb212, 3, none⟩ = some (.slice Ao18 t209.length co18) := (blk_cell BK212.out 3).trans rfl
                  have hfz36_0 := blk_frozen BK212.out 0
                  have hfz36_1 := blk_frozen BK212.out 1
                  have hfz36_2 := blk_frozen BK212.out 2
                  have hfz36_3 := blk_frozen BK212.out 3
                  go_wp2_with (first | (go_at_call 10; (with_reducible refine (flow_Check.calls k t206 t207 t208 _ _ t209 _ _ t213 t228 _ ?side1 ?side2 ?side3 ?side4 A29.out).mono ?_); (case side1 => repeat (first | exact (Kd.R_reads' HO211.out).2.2 | (with_reducible refine Kd.C_alloc ?_ _) | (with_reducible refine Kd.C_drewN ?_ _) | (with_reducible refine Kd.C_drew ?_))); (case side2 => exact (Kd.R_reads' HO211.out).2.1); (case side3 => repeat (first | exact (Kd.R_reads' HO215.out).2.2 | (with_reducible refine Kd.C_alloc ?_ _) | (with_reducible refine Kd.C_drewN ?_ _) | (with_reducible refine Kd.C_drew ?_))); (case side4 => exact (Kd.R_reads' HO215.out).2.1); rintro e w37 ⟨rfl, hb⟩; have n0_ := Aside0.mk (Kd.R_below (by (with_reducible repeat (first | apply Kd.R_alloc | apply Kd.R_drewN | apply Kd.R_drew)); exact HO211.out) hb); have n1_ := Aside0.mk (Kd.R_below (by (with_reducible repeat (first | apply Kd.R_alloc | apply Kd.R_drewN | apply Kd.R_drew)); exact HO215.out) hb); have n2_ := Aside0.mk (Kd.R_below (by (with_reducible repeat (first | apply Kd.R_alloc | apply Kd.R_drewN | apply Kd.R_drew)); exact HO225.out) hb); have n3_ := Aside0.mk (blk_below (g := gb212) (o := .cells #[.int .i64 t206, .int .i64 t207, .int .i64 t208, .slice Ao18 t209.length co18] 27 (0, 0)) (by (with_reducible repeat (first | refine blk_drewN ?_ _ | refine blk_drew ?_ | refine blk_alloc ?_ _)); exact BK212.out) hb); have n4_ := Aside0.mk (below_step (by repeat (first | (with_reducible first | exact HB.out | apply below_alloc | apply pw_below_drewN | apply below_drew1 | refine below_set ?_ GE212.out) | exact HB.out)) hb); clear HO211; clear HO215; clear HO225; clear BK212; clear HB; have HO211 := n0_; have HO215 := n1_; have HO225 := n2_; have BK212 := n3_; have HB := n4_; clear n0_ n1_ n2_ n3_ n4_; (try clear hb); (try clear hb2); (try clear hk); (try clear hi)))
                  repeat (go_quiet (first | (go_at_call 10; (with_reducible refine (flow_Check.calls k t206 t207 t208 _ _ t209 _ _ t213 t228 _ ?side1 ?side2 ?side3 ?side4 A29.out).mono ?_); (case side1 => repeat (first | exact (Kd.R_reads' HO211.out).2.2 | (with_reducible refine Kd.C_alloc ?_ _) | (with_reducible refine Kd.C_drewN ?_ _) | (with_reducible refine Kd.C_drew ?_))); (case side2 => exact (Kd.R_reads' HO211.out).2.1); (case side3 => repeat (first | exact (Kd.R_reads' HO215.out).2.2 | (with_reducible refine Kd.C_alloc ?_ _) | (with_reducible refine Kd.C_drewN ?_ _) | (with_reducible refine Kd.C_drew ?_))); (case side4 => exact (Kd.R_reads' HO215.out).2.1); rintro e w37 ⟨rfl, hb⟩; have n0_ := Aside0.mk (Kd.R_below (by (with_reducible repeat (first | apply Kd.R_alloc | apply Kd.R_drewN | apply Kd.R_drew)); exact HO211.out) hb); have n1_ := Aside0.mk (Kd.R_below (by (with_reducible repeat (first | apply Kd.R_alloc | apply Kd.R_drewN | apply Kd.R_drew)); exact HO215.out) hb); have n2_ := Aside0.mk (Kd.R_below (by (with_reducible repeat (first | apply Kd.R_alloc | apply Kd.R_drewN | apply Kd.R_drew)); exact HO225.out) hb); have n3_ := Aside0.mk (blk_below (g := gb212) (o := .cells #[.int .i64 t206, .int .i64 t207, .int .i64 t208, .slice Ao18 t209.length co18] 27 (0, 0)) (by (with_reducible repeat (first | refine blk_drewN ?_ _ | refine blk_drew ?_ | refine blk_alloc ?_ _)); exact BK212.out) hb); have n4_ := Aside0.mk (below_step (by repeat (first | (with_reducible first | exact HB.out | apply below_alloc | apply pw_below_drewN | apply below_drew1 | refine below_set ?_ GE212.out) | exact HB.out)) hb); clear HO211; clear HO215; clear HO225; clear BK212; clear HB; have HO211 := n0_; have HO215 := n1_; have HO225 := n2_; have BK212 := n3_; have HB := n4_; clear n0_ n1_ n2_ n3_ n4_; (try clear hb); (try clear hb2); (try clear hk); (try clear hi))); try go_wp2_with (first | (go_at_call 10; (with_reducible refine (flow_Check.calls k t206 t207 t208 _ _ t209 _ _ t213 t228 _ ?side1 ?side2 ?side3 ?side4 A29.out).mono ?_); (case side1 => repeat (first | exact (Kd.R_reads' HO211.out).2.2 | (with_reducible refine Kd.C_alloc ?_ _) | (with_reducible refine Kd.C_drewN ?_ _) | (with_reducible refine Kd.C_drew ?_))); (case side2 => exact (Kd.R_reads' HO211.out).2.1); (case side3 => repeat (first | exact (Kd.R_reads' HO215.out).2.2 | (with_reducible refine Kd.C_alloc ?_ _) | (with_reducible refine Kd.C_drewN ?_ _) | (with_reducible refine Kd.C_drew ?_))); (case side4 => exact (Kd.R_reads' HO215.out).2.1); rintro e w37 ⟨rfl, hb⟩; have n0_ := Aside0.mk (Kd.R_below (by (with_reducible repeat (first | apply Kd.R_alloc | apply Kd.R_drewN | apply Kd.R_drew)); exact HO211.out) hb); have n1_ := Aside0.mk (Kd.R_below (by (with_reducible repeat (first | apply Kd.R_alloc | apply Kd.R_drewN | apply Kd.R_drew)); exact HO215.out) hb); have n2_ := Aside0.mk (Kd.R_below (by (with_reducible repeat (first | apply Kd.R_alloc | apply Kd.R_drewN | apply Kd.R_drew)); exact HO225.out) hb); have n3_ := Aside0.mk (blk_below (g := gb212) (o := .cells #[.int .i64 t206, .int .i64 t207, .int .i64 t208, .slice Ao18 t209.length co18] 27 (0, 0)) (by (with_reducible repeat (first | refine blk_drewN ?_ _ | refine blk_drew ?_ | refine blk_alloc ?_ _)); exact BK212.out) hb); have n4_ := Aside0.mk (below_step (by repeat (first | (with_reducible first | exact HB.out | apply below_alloc | apply pw_below_drewN | apply below_drew1 | refine below_set ?_ GE212.out) | exact HB.out)) hb); clear HO211; clear HO215; clear HO225; clear BK212; clear HB; have HO211 := n0_; have HO215 := n1_; have HO225 := n2_; have BK212 := n3_; have HB := n4_; clear n0_ n1_ n2_ n3_ n4_; (try clear hb); (try clear hb2); (try clear hk); (try clear hi))))
                  go_meet
                  case rel => exact ⟨_, (decide (t216 < 0)), (by first | rfl | (simp; done) | (simp [*]; done)), H', ⟨by first | omega | exact Nat.le_refl _⟩, ⟨by (with_reducible repeat (first | apply Kd.R_alloc | apply Kd.R_drewN | apply Kd.R_drew)); exact HO215.out⟩, ⟨by (with_reducible repeat (first | apply Kd.R_alloc | apply Kd.R_drewN | apply Kd.R_drew)); exact Kd.R_mono HO211.out (fun _ hk => trivial)⟩, ⟨by (with_reducible repeat (first | refine blk_drewN ?_ _ | refine blk_drew ?_ | refine blk_alloc ?_ _)); exact BK212.out⟩, ⟨by repeat (first | (with_reducible first | exact HB.out | apply below_alloc | apply pw_below_drewN | apply below_drew1 | refine below_set ?_ GE212.out) | exact HB.out)⟩⟩
                · rw [if_neg c35] at H
                  have c35b0 : (t226 == t216) = false := beq_eq_false_iff_ne.mpr c35
                  have c35b1 : (t226 != t216) = true := bne_iff_ne.mpr c35
                  have H' := Aside0.mk H
                  clear H
                  have hcz38_0 : w28.cell? ⟨gb212, 0, none⟩ = some (.int .i64 t206) := (blk_cell BK212.out 0).trans rfl
                  have hcz38_1 : w28.cell? ⟨gb212, 1, none⟩ = some (.int .i64 t207) := (blk_cell BK212.out 1).trans rfl
                  have hcz38_2 : w28.cell? ⟨gb212, 2, none⟩ = some (.int .i64 t208) := (blk_cell BK212.out 2).trans rfl
                  have hcz38_3 : w28.cell? ⟨gb212, 3, none⟩ = some (.slice Ao18 t209.length co18) := (blk_cell BK212.out 3).trans rfl
                  have hfz38_0 := blk_frozen BK212.out 0
                  have hfz38_1 := blk_frozen BK212.out 1
                  have hfz38_2 := blk_frozen BK212.out 2
                  have hfz38_3 := blk_frozen BK212.out 3
                  go_wp2_with (first | (go_at_call 10; (with_reducible refine (flow_Check.calls k t206 t207 t208 _ _ t209 _ _ t213 t228 _ ?side1 ?side2 ?side3 ?side4 A29.out).mono ?_); (case side1 => repeat (first | exact (Kd.R_reads' HO211.out).2.2 | (with_reducible refine Kd.C_alloc ?_ _) | (with_reducible refine Kd.C_drewN ?_ _) | (with_reducible refine Kd.C_drew ?_))); (case side2 => exact (Kd.R_reads' HO211.out).2.1); (case side3 => repeat (first | exact (Kd.R_reads' HO215.out).2.2 | (with_reducible refine Kd.C_alloc ?_ _) | (with_reducible refine Kd.C_drewN ?_ _) | (with_reducible refine Kd.C_drew ?_))); (case side4 => exact (Kd.R_reads' HO215.out).2.1); rintro e w39 ⟨rfl, hb⟩; have n0_ := Aside0.mk (Kd.R_below (by (with_reducible repeat (first | apply Kd.R_alloc | apply Kd.R_drewN | apply Kd.R_drew)); exact HO211.out) hb); have n1_ := Aside0.mk (Kd.R_below (by (with_reducible repeat (first | apply Kd.R_alloc | apply Kd.R_drewN | apply Kd.R_drew)); exact HO215.out) hb); have n2_ := Aside0.mk (Kd.R_below (by (with_reducible repeat (first | apply Kd.R_alloc | apply Kd.R_drewN | apply Kd.R_drew)); exact HO225.out) hb); have n3_ := Aside0.mk (blk_below (g := gb212) (o := .cells #[.int .i64 t206, .int .i64 t207, .int .i64 t208, .slice Ao18 t209.length co18] 27 (0, 0)) (by (with_reducible repeat (first | refine blk_drewN ?_ _ | refine blk_drew ?_ | refine blk_alloc ?_ _)); exact BK212.out) hb); have n4_ := Aside0.mk (below_step (by repeat (first | (with_reducible first | exact HB.out | apply below_alloc | apply pw_below_drewN | apply below_drew1 | refine below_set ?_ GE212.out) | exact HB.out)) hb); clear HO211; clear HO215; clear HO225; clear BK212; clear HB; have HO211 := n0_; have HO215 := n1_; have HO225 := n2_; have BK212 := n3_; have HB := n4_; clear n0_ n1_ n2_ n3_ n4_; (try clear hb); (try clear hb2); (try clear hk); (try clear hi)))
                  repeat (go_quiet (first | (go_at_call 10; (with_reducible refine (flow_Check.calls k t206 t207 t208 _ _ t209 _ _ t213 t228 _ ?side1 ?side2 ?side3 ?side4 A29.out).mono ?_); (case side1 => repeat (first | exact (Kd.R_reads' HO211.out).2.2 | (with_reducible refine Kd.C_alloc ?_ _) | (with_reducible refine Kd.C_drewN ?_ _) | (with_reducible refine Kd.C_drew ?_))); (case side2 => exact (Kd.R_reads' HO211.out).2.1); (case side3 => repeat (first | exact (Kd.R_reads' HO215.out).2.2 | (with_reducible refine Kd.C_alloc ?_ _) | (with_reducible refine Kd.C_drewN ?_ _) | (with_reducible refine Kd.C_drew ?_))); (case side4 => exact (Kd.R_reads' HO215.out).2.1); rintro e w39 ⟨rfl, hb⟩; have n0_ := Aside0.mk (Kd.R_below (by (with_reducible repeat (first | apply Kd.R_alloc | apply Kd.R_drewN | apply Kd.R_drew)); exact HO211.out) hb); have n1_ := Aside0.mk (Kd.R_below (by (with_reducible repeat (first | apply Kd.R_alloc | apply Kd.R_drewN | apply Kd.R_drew)); exact HO215.out) hb); have n2_ := Aside0.mk (Kd.R_below (by (with_reducible repeat (first | apply Kd.R_alloc | apply Kd.R_drewN | apply Kd.R_drew)); exact HO225.out) hb); have n3_ := Aside0.mk (blk_below (g := gb212) (o := .cells #[.int .i64 t206, .int .i64 t207, .int .i64 t208, .slice Ao18 t209.length co18] 27 (0, 0)) (by (with_reducible repeat (first | refine blk_drewN ?_ _ | refine blk_drew ?_ | refine blk_alloc ?_ _)); exact BK212.out) hb); have n4_ := Aside0.mk (below_step (by repeat (first | (with_reducible first | exact HB.out | apply below_alloc | apply pw_below_drewN | apply below_drew1 | refine below_set ?_ GE212.out) | exact HB.out)) hb); clear HO211; clear HO215; clear HO225; clear BK212; clear HB; have HO211 := n0_; have HO215 := n1_; have HO225 := n2_; have BK212 := n3_; have HB := n4_; clear n0_ n1_ n2_ n3_ n4_; (try clear hb); (try clear hb2); (try clear hk); (try clear hi))); try go_wp2_with (first | (go_at_call 10; (with_reducible refine (flow_Check.calls k t206 t207 t208 _ _ t209 _ _ t213 t228 _ ?side1 ?side2 ?side3 ?side4 A29.out).mono ?_); (case side1 => repeat (first | exact (Kd.R_reads' HO211.out).2.2 | (with_reducible refine Kd.C_alloc ?_ _) | (with_reducible refine Kd.C_drewN ?_ _) | (with_reducible refine Kd.C_drew ?_))); (case side2 => exact (Kd.R_reads' HO211.out).2.1); (case side3 => repeat (first | exact (Kd.R_reads' HO215.out).2.2 | (with_reducible refine Kd.C_alloc ?_ _) | (with_reducible refine Kd.C_drewN ?_ _) | (with_reducible refine Kd.C_drew ?_))); (case side4 => exact (Kd.R_reads' HO215.out).2.1); rintro e w39 ⟨rfl, hb⟩; have n0_ := Aside0.mk (Kd.R_below (by (with_reducible repeat (first | apply Kd.R_alloc | apply Kd.R_drewN | apply Kd.R_drew)); exact HO211.out) hb); have n1_ := Aside0.mk (Kd.R_below (by (with_reducible repeat (first | apply Kd.R_alloc | apply Kd.R_drewN | apply Kd.R_drew)); exact HO215.out) hb); have n2_ := Aside0.mk (Kd.R_below (by (with_reducible repeat (first | apply Kd.R_alloc | apply Kd.R_drewN | apply Kd.R_drew)); exact HO225.out) hb); have n3_ := Aside0.mk (blk_below (g := gb212) (o := .cells #[.int .i64 t206, .int .i64 t207, .int .i64 t208, .slice Ao18 t209.length co18] 27 (0, 0)) (by (with_reducible repeat (first | refine blk_drewN ?_ _ | refine blk_drew ?_ | refine blk_alloc ?_ _)); exact BK212.out) hb); have n4_ := Aside0.mk (below_step (by repeat (first | (with_reducible first | exact HB.out | apply below_alloc | apply pw_below_drewN | apply below_drew1 | refine below_set ?_ GE212.out) | exact HB.out)) hb); clear HO211; clear HO215; clear HO225; clear BK212; clear HB; have HO211 := n0_; have HO215 := n1_; have HO225 := n2_; have BK212 := n3_; have HB := n4_; clear n0_ n1_ n2_ n3_ n4_; (try clear hb); (try clear hb2); (try clear hk); (try clear hi))))
                  go_meet
                  case rel => exact ⟨_, (true), (by first | rfl | (simp; done) | (simp [*]; done)), H', ⟨by first | omega | exact Nat.le_refl _⟩, ⟨by (with_reducible repeat (first | apply Kd.R_alloc | apply Kd.R_drewN | apply Kd.R_drew)); exact HO215.out⟩, ⟨by (with_reducible repeat (first | apply Kd.R_alloc | apply Kd.R_drewN | apply Kd.R_drew)); exact Kd.R_mono HO211.out (fun _ hk => trivial)⟩, ⟨by (with_reducible repeat (first | refine blk_drewN ?_ _ | refine blk_drew ?_ | refine blk_alloc ?_ _)); exact BK212.out⟩, ⟨by repeat (first | (with_reducible first | exact HB.out | apply below_alloc | apply pw_below_drewN | apply below_drew1 | refine below_set ?_ GE212.out) | exact HB.out)⟩⟩
              · rw [if_neg c34] at H
                have c34b0 : (t218 == (wrap64 (-t216))) = false := beq_eq_false_iff_ne.mpr c34
                have c34b1 : (t218 != (wrap64 (-t216))) = true := bne_iff_ne.mpr c34
                have H' := Aside0.mk H
                clear H
                have hcz40_0 : w28.cell? ⟨gb212, 0, none⟩ = some (.int .i64 t206) := (blk_cell BK212.out 0).trans rfl
                have hcz40_1 : w28.cell? ⟨gb212, 1, none⟩ = some (.int .i64 t207) := (blk_cell BK212.out 1).trans rfl
                have hcz40_2 : w28.cell? ⟨gb212, 2, none⟩ = some (.int .i64 t208) := (blk_cell BK212.out 2).trans rfl
                have hcz40_3 : w28.cell? ⟨gb212, 3, none⟩ = some (.slice Ao18 t209.length co18) := (blk_cell BK212.out 3).trans rfl
                have hfz40_0 := blk_frozen BK212.out 0
                have hfz40_1 := blk_frozen BK212.out 1
                have hfz40_2 := blk_frozen BK212.out 2
                have hfz40_3 := blk_frozen BK212.out 3
                go_wp2_with (first | (go_at_call 10; (with_reducible refine (flow_Check.calls k t206 t207 t208 _ _ t209 _ _ t213 t228 _ ?side1 ?side2 ?side3 ?side4 A29.out).mono ?_); (case side1 => repeat (first | exact (Kd.R_reads' HO211.out).2.2 | (with_reducible refine Kd.C_alloc ?_ _) | (with_reducible refine Kd.C_drewN ?_ _) | (with_reducible refine Kd.C_drew ?_))); (case side2 => exact (Kd.R_reads' HO211.out).2.1); (case side3 => repeat (first | exact (Kd.R_reads' HO215.out).2.2 | (with_reducible refine Kd.C_alloc ?_ _) | (with_reducible refine Kd.C_drewN ?_ _) | (with_reducible refine Kd.C_drew ?_))); (case side4 => exact (Kd.R_reads' HO215.out).2.1); rintro e w41 ⟨rfl, hb⟩; have n0_ := Aside0.mk (Kd.R_below (by (with_reducible repeat (first | apply Kd.R_alloc | apply Kd.R_drewN | apply Kd.R_drew)); exact HO211.out) hb); have n1_ := Aside0.mk (Kd.R_below (by (with_reducible repeat (first | apply Kd.R_alloc | apply Kd.R_drewN | apply Kd.R_drew)); exact HO215.out) hb); have n2_ := Aside0.mk (Kd.R_below (by (with_reducible repeat (first | apply Kd.R_alloc | apply Kd.R_drewN | apply Kd.R_drew)); exact HO225.out) hb); have n3_ := Aside0.mk (blk_below (g := gb212) (o := .cells #[.int .i64 t206, .int .i64 t207, .int .i64 t208, .slice Ao18 t209.length co18] 27 (0, 0)) (by (with_reducible repeat (first | refine blk_drewN ?_ _ | refine blk_drew ?_ | refine blk_alloc ?_ _)); exact BK212.out) hb); have n4_ := Aside0.mk (below_step (by repeat (first | (with_reducible first | exact HB.out | apply below_alloc | apply pw_below_drewN | apply below_drew1 | refine below_set ?_ GE212.out) | exact HB.out)) hb); clear HO211; clear HO215; clear HO225; clear BK212; clear HB; have HO211 := n0_; have HO215 := n1_; have HO225 := n2_; have BK212 := n3_; have HB := n4_; clear n0_ n1_ n2_ n3_ n4_; (try clear hb); (try clear hb2); (try clear hk); (try clear hi)))
                repeat (go_quiet (first | (go_at_call 10; (with_reducible refine (flow_Check.calls k t206 t207 t208 _ _ t209 _ _ t213 t228 _ ?side1 ?side2 ?side3 ?side4 A29.out).mono ?_); (case side1 => repeat (first | exact (Kd.R_reads' HO211.out).2.2 | (with_reducible refine Kd.C_alloc ?_ _) | (with_reducible refine Kd.C_drewN ?_ _) | (with_reducible refine Kd.C_drew ?_))); (case side2 => exact (Kd.R_reads' HO211.out).2.1); (case side3 => repeat (first | exact (Kd.R_reads' HO215.out).2.2 | (with_reducible refine Kd.C_alloc ?_ _) | (with_reducible refine Kd.C_drewN ?_ _) | (with_reducible refine Kd.C_drew ?_))); (case side4 => exact (Kd.R_reads' HO215.out).2.1); rintro e w41 ⟨rfl, hb⟩; have n0_ := Aside0.mk (Kd.R_below (by (with_reducible repeat (first | apply Kd.R_alloc | apply Kd.R_drewN | apply Kd.R_drew)); exact HO211.out) hb); have n1_ := Aside0.mk (Kd.R_below (by (with_reducible repeat (first | apply Kd.R_alloc | apply Kd.R_drewN | apply Kd.R_drew)); exact HO215.out) hb); have n2_ := Aside0.mk (Kd.R_below (by (with_reducible repeat (first | apply Kd.R_alloc | apply Kd.R_drewN | apply Kd.R_drew)); exact HO225.out) hb); have n3_ := Aside0.mk (blk_below (g := gb212) (o := .cells #[.int .i64 t206, .int .i64 t207, .int .i64 t208, .slice Ao18 t209.length co18] 27 (0, 0)) (by (with_reducible repeat (first | refine blk_drewN ?_ _ | refine blk_drew ?_ | refine blk_alloc ?_ _)); exact BK212.out) hb); have n4_ := Aside0.mk (below_step (by repeat (first | (with_reducible first | exact HB.out | apply below_alloc | apply pw_below_drewN | apply below_drew1 | refine below_set ?_ GE212.out) | exact HB.out)) hb); clear HO211; clear HO215; clear HO225; clear BK212; clear HB; have HO211 := n0_; have HO215 := n1_; have HO225 := n2_; have BK212 := n3_; have HB := n4_; clear n0_ n1_ n2_ n3_ n4_; (try clear hb); (try clear hb2); (try clear hk); (try clear hi))); try go_wp2_with (first | (go_at_call 10; (with_reducible refine (flow_Check.calls k t206 t207 t208 _ _ t209 _ _ t213 t228 _ ?side1 ?side2 ?side3 ?side4 A29.out).mono ?_); (case side1 => repeat (first | exact (Kd.R_reads' HO211.out).2.2 | (with_reducible refine Kd.C_alloc ?_ _) | (with_reducible refine Kd.C_drewN ?_ _) | (with_reducible refine Kd.C_drew ?_))); (case side2 => exact (Kd.R_reads' HO211.out).2.1); (case side3 => repeat (first | exact (Kd.R_reads' HO215.out).2.2 | (with_reducible refine Kd.C_alloc ?_ _) | (with_reducible refine Kd.C_drewN ?_ _) | (with_reducible refine Kd.C_drew ?_))); (case side4 => exact (Kd.R_reads' HO215.out).2.1); rintro e w41 ⟨rfl, hb⟩; have n0_ := Aside0.mk (Kd.R_below (by (with_reducible repeat (first | apply Kd.R_alloc | apply Kd.R_drewN | apply Kd.R_drew)); exact HO211.out) hb); have n1_ := Aside0.mk (Kd.R_below (by (with_reducible repeat (first | apply Kd.R_alloc | apply Kd.R_drewN | apply Kd.R_drew)); exact HO215.out) hb); have n2_ := Aside0.mk (Kd.R_below (by (with_reducible repeat (first | apply Kd.R_alloc | apply Kd.R_drewN | apply Kd.R_drew)); exact HO225.out) hb); have n3_ := Aside0.mk (blk_below (g := gb212) (o := .cells #[.int .i64 t206, .int .i64 t207, .int .i64 t208, .slice Ao18 t209.length co18] 27 (0, 0)) (by (with_reducible repeat (first | refine blk_drewN ?_ _ | refine blk_drew ?_ | refine blk_alloc ?_ _)); exact BK212.out) hb); have n4_ := Aside0.mk (below_step (by repeat (first | (with_reducible first | exact HB.out | apply below_alloc | apply pw_below_drewN | apply below_drew1 | refine below_set ?_ GE212.out) | exact HB.out)) hb); clear HO211; clear HO215; clear HO225; clear BK212; clear HB; have HO211 := n0_; have HO215 := n1_; have HO225 := n2_; have BK212 := n3_; have HB := n4_; clear n0_ n1_ n2_ n3_ n4_; (try clear hb); (try clear hb2); (try clear hk); (try clear hi))))
                go_meet
                case rel => exact ⟨_, (true), (by first | rfl | (simp; done) | (simp [*]; done)), H', ⟨by first | omega | exact Nat.le_refl _⟩, ⟨by (with_reducible repeat (first | apply Kd.R_alloc | apply Kd.R_drewN | apply Kd.R_drew)); exact HO215.out⟩, ⟨by (with_reducible repeat (first | apply Kd.R_alloc | apply Kd.R_drewN | apply Kd.R_drew)); exact Kd.R_mono HO211.out (fun _ hk => trivial)⟩, ⟨by (with_reducible repeat (first | refine blk_drewN ?_ _ | refine blk_drew ?_ | refine blk_alloc ?_ _)); exact BK212.out⟩, ⟨by repeat (first | (with_reducible first | exact HB.out | apply below_alloc | apply pw_below_drewN | apply below_drew1 | refine below_set ?_ GE212.out) | exact HB.out)⟩⟩
            · rw [if_neg c33] at H
              have c33b0 : (t227 == 0) = false := beq_eq_false_iff_ne.mpr c33
              have c33b1 : (t227 != 0) = true := bne_iff_ne.mpr c33
              have H' := Aside0.mk H
              clear H
              have hcz42_0 : w28.cell? ⟨gb212, 0, none⟩ = some (.int .i64 t206) := (blk_cell BK212.out 0).trans rfl
              have hcz42_1 : w28.cell? ⟨gb212, 1, none⟩ = some (.int .i64 t207) := (blk_cell BK212.out 1).trans rfl
              have hcz42_2 : w28.cell? ⟨gb212, 2, none⟩ = some (.int .i64 t208) := (blk_cell BK212.out 2).trans rfl
              have hcz42_3 : w28.cell? ⟨gb212, 3, none⟩ = some (.slice Ao18 t209.length co18) := (blk_cell BK212.out 3).trans rfl
              have hfz42_0 := blk_frozen BK212.out 0
              have hfz42_1 := blk_frozen BK212.out 1
              have hfz42_2 := blk_frozen BK212.out 2
              have hfz42_3 := blk_frozen BK212.out 3
              go_wp2_with (first | (go_at_call 10; (with_reducible refine (flow_Check.calls k t206 t207 t208 _ _ t209 _ _ t213 t228 _ ?side1 ?side2 ?side3 ?side4 A29.out).mono ?_); (case side1 => repeat (first | exact (Kd.R_reads' HO211.out).2.2 | (with_reducible refine Kd.C_alloc ?_ _) | (with_reducible refine Kd.C_drewN ?_ _) | (with_reducible refine Kd.C_drew ?_))); (case side2 => exact (Kd.R_reads' HO211.out).2.1); (case side3 => repeat (first | exact (Kd.R_reads' HO215.out).2.2 | (with_reducible refine Kd.C_alloc ?_ _) | (with_reducible refine Kd.C_drewN ?_ _) | (with_reducible refine Kd.C_drew ?_))); (case side4 => exact (Kd.R_reads' HO215.out).2.1); rintro e w43 ⟨rfl, hb⟩; have n0_ := Aside0.mk (Kd.R_below (by (with_reducible repeat (first | apply Kd.R_alloc | apply Kd.R_drewN | apply Kd.R_drew)); exact HO211.out) hb); have n1_ := Aside0.mk (Kd.R_below (by (with_reducible repeat (first | apply Kd.R_alloc | apply Kd.R_drewN | apply Kd.R_drew)); exact HO215.out) hb); have n2_ := Aside0.mk (Kd.R_below (by (with_reducible repeat (first | apply Kd.R_alloc | apply Kd.R_drewN | apply Kd.R_drew)); exact HO225.out) hb); have n3_ := Aside0.mk (blk_below (g := gb212) (o := .cells #[.int .i64 t206, .int .i64 t207, .int .i64 t208, .slice Ao18 t209.length co18] 27 (0, 0)) (by (with_reducible repeat (first | refine blk_drewN ?_ _ | refine blk_drew ?_ | refine blk_alloc ?_ _)); exact BK212.out) hb); have n4_ := Aside0.mk (below_step (by repeat (first | (with_reducible first | exact HB.out | apply below_alloc | apply pw_below_drewN | apply below_drew1 | refine below_set ?_ GE212.out) | exact HB.out)) hb); clear HO211; clear HO215; clear HO225; clear BK212; clear HB; have HO211 := n0_; have HO215 := n1_; have HO225 := n2_; have BK212 := n3_; have HB := n4_; clear n0_ n1_ n2_ n3_ n4_; (try clear hb); (try clear hb2); (try clear hk); (try clear hi)))
              repeat (go_quiet (first | (go_at_call 10; (with_reducible refine (flow_Check.calls k t206 t207 t208 _ _ t209 _ _ t213 t228 _ ?side1 ?side2 ?side3 ?side4 A29.out).mono ?_); (case side1 => repeat (first | exact (Kd.R_reads' HO211.out).2.2 | (with_reducible refine Kd.C_alloc ?_ _) | (with_reducible refine Kd.C_drewN ?_ _) | (with_reducible refine Kd.C_drew ?_))); (case side2 => exact (Kd.R_reads' HO211.out).2.1); (case side3 => repeat (first | exact (Kd.R_reads' HO215.out).2.2 | (with_reducible refine Kd.C_alloc ?_ _) | (with_reducible refine Kd.C_drewN ?_ _) | (with_reducible refine Kd.C_drew ?_))); (case side4 => exact (Kd.R_reads' HO215.out).2.1); rintro e w43 ⟨rfl, hb⟩; have n0_ := Aside0.mk (Kd.R_below (by (with_reducible repeat (first | apply Kd.R_alloc | apply Kd.R_drewN | apply Kd.R_drew)); exact HO211.out) hb); have n1_ := Aside0.mk (Kd.R_below (by (with_reducible repeat (first | apply Kd.R_alloc | apply Kd.R_drewN | apply Kd.R_drew)); exact HO215.out) hb); have n2_ := Aside0.mk (Kd.R_below (by (with_reducible repeat (first | apply Kd.R_alloc | apply Kd.R_drewN | apply Kd.R_drew)); exact HO225.out) hb); have n3_ := Aside0.mk (blk_below (g := gb212) (o := .cells #[.int .i64 t206, .int .i64 t207, .int .i64 t208, .slice Ao18 t209.length co18] 27 (0, 0)) (by (with_reducible repeat (first | refine blk_drewN ?_ _ | refine blk_drew ?_ | refine blk_alloc ?_ _)); exact BK212.out) hb); have n4_ := Aside0.mk (below_step (by repeat (first | (with_reducible first | exact HB.out | apply below_alloc | apply pw_below_drewN | apply below_drew1 | refine below_set ?_ GE212.out) | exact HB.out)) hb); clear HO211; clear HO215; clear HO225; clear BK212; clear HB; have HO211 := n0_; have HO215 := n1_; have HO225 := n2_; have BK212 := n3_; have HB := n4_; clear n0_ n1_ n2_ n3_ n4_; (try clear hb); (try clear hb2); (try clear hk); (try clear hi))); try go_wp2_with (first | (go_at_call 10; (with_reducible refine (flow_Check.calls k t206 t207 t208 _ _ t209 _ _ t213 t228 _ ?side1 ?side2 ?side3 ?side4 A29.out).mono ?_); (case side1 => repeat (first | exact (Kd.R_reads' HO211.out).2.2 | (with_reducible refine Kd.C_alloc ?_ _) | (with_reducible refine Kd.C_drewN ?_ _) | (with_reducible refine Kd.C_drew ?_))); (case side2 => exact (Kd.R_reads' HO211.out).2.1); (case side3 => repeat (first | exact (Kd.R_reads' HO215.out).2.2 | (with_reducible refine Kd.C_alloc ?_ _) | (with_reducible refine Kd.C_drewN ?_ _) | (with_reducible refine Kd.C_drew ?_))); (case side4 => exact (Kd.R_reads' HO215.out).2.1); rintro e w43 ⟨rfl, hb⟩; have n0_ := Aside0.mk (Kd.R_below (by (with_reducible repeat (first | apply Kd.R_alloc | apply Kd.R_drewN | apply Kd.R_drew)); exact HO211.out) hb); have n1_ := Aside0.mk (Kd.R_below (by (with_reducible repeat (first | apply Kd.R_alloc | apply Kd.R_drewN | apply Kd.R_drew)); exact HO215.out) hb); have n2_ := Aside0.mk (Kd.R_below (by (with_reducible repeat (first | apply Kd.R_alloc | apply Kd.R_drewN | apply Kd.R_drew)); exact HO225.out) hb); have n3_ := Aside0.mk (blk_below (g := gb212) (o := .cells #[.int .i64 t206, .int .i64 t207, .int .i64 t208, .slice Ao18 t209.length co18] 27 (0, 0)) (by (with_reducible repeat (first | refine blk_drewN ?_ _ | refine blk_drew ?_ | refine blk_alloc ?_ _)); exact BK212.out) hb); have n4_ := Aside0.mk (below_step (by repeat (first | (with_reducible first | exact HB.out | apply below_alloc | apply pw_below_drewN | apply below_drew1 | refine below_set ?_ GE212.out) | exact HB.out)) hb); clear HO211; clear HO215; clear HO225; clear BK212; clear HB; have HO211 := n0_; have HO215 := n1_; have HO225 := n2_; have BK212 := n3_; have HB := n4_; clear n0_ n1_ n2_ n3_ n4_; (try clear hb); (try clear hb2); (try clear hk); (try clear hi))))
              go_meet
              case rel => exact ⟨_, (true), (by first | rfl | (simp; done) | (simp [*]; done)), H', ⟨by first | omega | exact Nat.le_refl _⟩, ⟨by (with_reducible repeat (first | apply Kd.R_alloc | apply Kd.R_drewN | apply Kd.R_drew)); exact HO215.out⟩, ⟨by (with_reducible repeat (first | apply Kd.R_alloc | apply Kd.R_drewN | apply Kd.R_drew)); exact Kd.R_mono HO211.out (fun _ hk => trivial)⟩, ⟨by (with_reducible repeat (first | refine blk_drewN ?_ _ | refine blk_drew ?_ | refine blk_alloc ?_ _)); exact BK212.out⟩, ⟨by repeat (first | (with_reducible first | exact HB.out | apply below_alloc | apply pw_below_drewN | apply below_drew1 | refine below_set ?_ GE212.out) | exact HB.out)⟩⟩
          · rw [if_neg c32] at H
            have c32b0 : (t219 == 0) = false := beq_eq_false_iff_ne.mpr c32
            have c32b1 : (t219 != 0) = true := bne_iff_ne.mpr c32
            have H' := Aside0.mk H
            clear H
            have hcz44_0 : w28.cell? ⟨gb212, 0, none⟩ = some (.int .i64 t206) := (blk_cell BK212.out 0).trans rfl
            have hcz44_1 : w28.cell? ⟨gb212, 1, none⟩ = some (.int .i64 t207) := (blk_cell BK212.out 1).trans rfl
            have hcz44_2 : w28.cell? ⟨gb212, 2, none⟩ = some (.int .i64 t208) := (blk_cell BK212.out 2).trans rfl
            have hcz44_3 : w28.cell? ⟨gb212, 3, none⟩ = some (.slice Ao18 t209.length co18) := (blk_cell BK212.out 3).trans rfl
            have hfz44_0 := blk_frozen BK212.out 0
            have hfz44_1 := blk_frozen BK212.out 1
            have hfz44_2 := blk_frozen BK212.out 2
            have hfz44_3 := blk_frozen BK212.out 3
            go_wp2_with (first | (go_at_call 10; (with_reducible refine (flow_Check.calls k t206 t207 t208 _ _ t209 _ _ t213 t228 _ ?side1 ?side2 ?side3 ?side4 A29.out).mono ?_); (case side1 => repeat (first | exact (Kd.R_reads' HO211.out).2.2 | (with_reducible refine Kd.C_alloc ?_ _) | (with_reducible refine Kd.C_drewN ?_ _) | (with_reducible refine Kd.C_drew ?_))); (case side2 => exact (Kd.R_reads' HO211.out).2.1); (case side3 => repeat (first | exact (Kd.R_reads' HO215.out).2.2 | (with_reducible refine Kd.C_alloc ?_ _) | (with_reducible refine Kd.C_drewN ?_ _) | (with_reducible refine Kd.C_drew ?_))); (case side4 => exact (Kd.R_reads' HO215.out).2.1); rintro e w45 ⟨rfl, hb⟩; have n0_ := Aside0.mk (Kd.R_below (by (with_reducible repeat (first | apply Kd.R_alloc | apply Kd.R_drewN | apply Kd.R_drew)); exact HO211.out) hb); have n1_ := Aside0.mk (Kd.R_below (by (with_reducible repeat (first | apply Kd.R_alloc | apply Kd.R_drewN | apply Kd.R_drew)); exact HO215.out) hb); have n2_ := Aside0.mk (Kd.R_below (by (with_reducible repeat (first | apply Kd.R_alloc | apply Kd.R_drewN | apply Kd.R_drew)); exact HO225.out) hb); have n3_ := Aside0.mk (blk_below (g := gb212) (o := .cells #[.int .i64 t206, .int .i64 t207, .int .i64 t208, .slice Ao18 t209.length co18] 27 (0, 0)) (by (with_reducible repeat (first | refine blk_drewN ?_ _ | refine blk_drew ?_ | refine blk_alloc ?_ _)); exact BK212.out) hb); have n4_ := Aside0.mk (below_step (by repeat (first | (with_reducible first | exact HB.out | apply below_alloc | apply pw_below_drewN | apply below_drew1 | refine below_set ?_ GE212.out) | exact HB.out)) hb); clear HO211; clear HO215; clear HO225; clear BK212; clear HB; have HO211 := n0_; have HO215 := n1_; have HO225 := n2_; have BK212 := n3_; have HB := n4_; clear n0_ n1_ n2_ n3_ n4_; (try clear hb); (try clear hb2); (try clear hk); (try clear hi)))
            repeat (go_quiet (first | (go_at_call 10; (with_reducible refine (flow_Check.calls k t206 t207 t208 _ _ t209 _ _ t213 t228 _ ?side1 ?side2 ?side3 ?side4 A29.out).mono ?_); (case side1 => repeat (first | exact (Kd.R_reads' HO211.out).2.2 | (with_reducible refine Kd.C_alloc ?_ _) | (with_reducible refine Kd.C_drewN ?_ _) | (with_reducible refine Kd.C_drew ?_))); (case side2 => exact (Kd.R_reads' HO211.out).2.1); (case side3 => repeat (first | exact (Kd.R_reads' HO215.out).2.2 | (with_reducible refine Kd.C_alloc ?_ _) | (with_reducible refine Kd.C_drewN ?_ _) | (with_reducible refine Kd.C_drew ?_))); (case side4 => exact (Kd.R_reads' HO215.out).2.1); rintro e w45 ⟨rfl, hb⟩; have n0_ := Aside0.mk (Kd.R_below (by (with_reducible repeat (first | apply Kd.R_alloc | apply Kd.R_drewN | apply Kd.R_drew)); exact HO211.out) hb); have n1_ := Aside0.mk (Kd.R_below (by (with_reducible repeat (first | apply Kd.R_alloc | apply Kd.R_drewN | apply Kd.R_drew)); exact HO215.out) hb); have n2_ := Aside0.mk (Kd.R_below (by (with_reducible repeat (first | apply Kd.R_alloc | apply Kd.R_drewN | apply Kd.R_drew)); exact HO225.out) hb); have n3_ := Aside0.mk (blk_below (g := gb212) (o := .cells #[.int .i64 t206, .int .i64 t207, .int .i64 t208, .slice Ao18 t209.length co18] 27 (0, 0)) (by (with_reducible repeat (first | refine blk_drewN ?_ _ | refine blk_drew ?_ | refine blk_alloc ?_ _)); exact BK212.out) hb); have n4_ := Aside0.mk (below_step (by repeat (first | (with_reducible first | exact HB.out | apply below_alloc | apply pw_below_drewN | apply below_drew1 | refine below_set ?_ GE212.out) | exact HB.out)) hb); clear HO211; clear HO215; clear HO225; clear BK212; clear HB; have HO211 := n0_; have HO215 := n1_; have HO225 := n2_; have BK212 := n3_; have HB := n4_; clear n0_ n1_ n2_ n3_ n4_; (try clear hb); (try clear hb2); (try clear hk); (try clear hi))); try go_wp2_with (first | (go_at_call 10; (with_reducible refine (flow_Check.calls k t206 t207 t208 _ _ t209 _ _ t213 t228 _ ?side1 ?side2 ?side3 ?side4 A29.out).mono ?_); (case side1 => repeat (first | exact (Kd.R_reads' HO211.out).2.2 | (with_reducible refine Kd.C_alloc ?_ _) | (with_reducible refine Kd.C_drewN ?_ _) | (with_reducible refine Kd.C_drew ?_))); (case side2 => exact (Kd.R_reads' HO211.out).2.1); (case side3 => repeat (first | exact (Kd.R_reads' HO215.out).2.2 | (with_reducible refine Kd.C_alloc ?_ _) | (with_reducible refine Kd.C_drewN ?_ _) | (with_reducible refine Kd.C_drew ?_))); (case side4 => exact (Kd.R_reads' HO215.out).2.1); rintro e w45 ⟨rfl, hb⟩; have n0_ := Aside0.mk (Kd.R_below (by (with_reducible repeat (first | apply Kd.R_alloc | apply Kd.R_drewN | apply Kd.R_drew)); exact HO211.out) hb); have n1_ := Aside0.mk (Kd.R_below (by (with_reducible repeat (first | apply Kd.R_alloc | apply Kd.R_drewN | apply Kd.R_drew)); exact HO215.out) hb); have n2_ := Aside0.mk (Kd.R_below (by (with_reducible repeat (first | apply Kd.R_alloc | apply Kd.R_drewN | apply Kd.R_drew)); exact HO225.out) hb); have n3_ := Aside0.mk (blk_below (g := gb212) (o := .cells #[.int .i64 t206, .int .i64 t207, .int .i64 t208, .slice Ao18 t209.length co18] 27 (0, 0)) (by (with_reducible repeat (first | refine blk_drewN ?_ _ | refine blk_drew ?_ | refine blk_alloc ?_ _)); exact BK212.out) hb); have n4_ := Aside0.mk (below_step (by repeat (first | (with_reducible first | exact HB.out | apply below_alloc | apply pw_below_drewN | apply below_drew1 | refine below_set ?_ GE212.out) | exact HB.out)) hb); clear HO211; clear HO215; clear HO225; clear BK212; clear HB; have HO211 := n0_; have HO215 := n1_; have HO225 := n2_; have BK212 := n3_; have HB := n4_; clear n0_ n1_ n2_ n3_ n4_; (try clear hb); (try clear hb2); (try clear hk); (try clear hi))))
            go_meet
            case rel => exact ⟨_, (true), (by first | rfl | (simp; done) | (simp [*]; done)), H', ⟨by first | omega | exact Nat.le_refl _⟩, ⟨by (with_reducible repeat (first | apply Kd.R_alloc | apply Kd.R_drewN | apply Kd.R_drew)); exact HO215.out⟩, ⟨by (with_reducible repeat (first | apply Kd.R_alloc | apply Kd.R_drewN | apply Kd.R_drew)); exact Kd.R_mono HO211.out (fun _ hk => trivial)⟩, ⟨by (with_reducible repeat (first | refine blk_drewN ?_ _ | refine blk_drew ?_ | refine blk_alloc ?_ _)); exact BK212.out⟩, ⟨by repeat (first | (with_reducible first | exact HB.out | apply below_alloc | apply pw_below_drewN | apply below_drew1 | refine below_set ?_ GE212.out) | exact HB.out)⟩⟩
        · rw [if_neg c31] at H
          have c31b0 : (t217 == 0) = false := beq_eq_false_iff_ne.mpr c31
          have c31b1 : (t217 != 0) = true := bne_iff_ne.mpr c31
          have H' := Aside0.mk H
          clear H
          have hcz46_0 : w28.cell? ⟨gb212, 0, none⟩ = some (.int .i64 t206) := (blk_cell BK212.out 0).trans rfl
          have hcz46_1 : w28.cell? ⟨gb212, 1, none⟩ = some (.int .i64 t207) := (blk_cell BK212.out 1).trans rfl
          have hcz46_2 : w28.cell? ⟨gb212, 2, none⟩ = some (.int .i64 t208) := (blk_cell BK212.out 2).trans rfl
          have hcz46_3 : w28.cell? ⟨gb212, 3, none⟩ = some (.slice Ao18 t209.length co18) := (blk_cell BK212.out 3).trans rfl
          have hfz46_0 := blk_frozen BK212.out 0
          have hfz46_1 := blk_frozen BK212.out 1
          have hfz46_2 := blk_frozen BK212.out 2
          have hfz46_3 := blk_frozen BK212.out 3
          go_wp2_with (first | (go_at_call 10; (with_reducible refine (flow_Check.calls k t206 t207 t208 _ _ t209 _ _ t213 t228 _ ?side1 ?side2 ?side3 ?side4 A29.out).mono ?_); (case side1 => repeat (first | exact (Kd.R_reads' HO211.out).2.2 | (with_reducible refine Kd.C_alloc ?_ _) | (with_reducible refine Kd.C_drewN ?_ _) | (with_reducible refine Kd.C_drew ?_))); (case side2 => exact (Kd.R_reads' HO211.out).2.1); (case side3 => repeat (first | exact (Kd.R_reads' HO215.out).2.2 | (with_reducible refine Kd.C_alloc ?_ _) | (with_reducible refine Kd.C_drewN ?_ _) | (with_reducible refine Kd.C_drew ?_))); (case side4 => exact (Kd.R_reads' HO215.out).2.1); rintro e w47 ⟨rfl, hb⟩; have n0_ := Aside0.mk (Kd.R_below (by (with_reducible repeat (first | apply Kd.R_alloc | apply Kd.R_drewN | apply Kd.R_drew)); exact HO211.out) hb); have n1_ := Aside0.mk (Kd.R_below (by (with_reducible repeat (first | apply Kd.R_alloc | apply Kd.R_drewN | apply Kd.R_drew)); exact HO215.out) hb); have n2_ := Aside0.mk (Kd.R_below (by (with_reducible repeat (first | apply Kd.R_alloc | apply Kd.R_drewN | apply Kd.R_drew)); exact HO225.out) hb); have n3_ := Aside0.mk (blk_below (g := gb212) (o := .cells #[.int .i64 t206, .int .i64 t207, .int .i64 t208, .slice Ao18 t209.length co18] 27 (0, 0)) (by (with_reducible repeat (first | refine blk_drewN ?_ _ | refine blk_drew ?_ | refine blk_alloc ?_ _)); exact BK212.out) hb); have n4_ := Aside0.mk (below_step (by repeat (first | (with_reducible first | exact HB.out | apply below_alloc | apply pw_below_drewN | apply below_drew1 | refine below_set ?_ GE212.out) | exact HB.out)) hb); clear HO211; clear HO215; clear HO225; clear BK212; clear HB; have HO211 := n0_; have HO215 := n1_; have HO225 := n2_; have BK212 := n3_; have HB := n4_; clear n0_ n1_ n2_ n3_ n4_; (try clear hb); (try clear hb2); (try clear hk); (try clear hi)))
          repeat (go_quiet (first | (go_at_call 10; (with_reducible refine (flow_Check.calls k t206 t207 t208 _ _ t209 _ _ t213 t228 _ ?side1 ?side2 ?side3 ?side4 A29.out).mono ?_); (case side1 => repeat (first | exact (Kd.R_reads' HO211.out).2.2 | (with_reducible refine Kd.C_alloc ?_ _) | (with_reducible refine Kd.C_drewN ?_ _) | (with_reducible refine Kd.C_drew ?_))); (case side2 => exact (Kd.R_reads' HO211.out).2.1); (case side3 => repeat (first | exact (Kd.R_reads' HO215.out).2.2 | (with_reducible refine Kd.C_alloc ?_ _) | (with_reducible refine Kd.C_drewN ?_ _) | (with_reducible refine Kd.C_drew ?_))); (case side4 => exact (Kd.R_reads' HO215.out).2.1); rintro e w47 ⟨rfl, hb⟩; have n0_ := Aside0.mk (Kd.R_below (by (with_reducible repeat (first | apply Kd.R_alloc | apply Kd.R_drewN | apply Kd.R_drew)); exact HO211.out) hb); have n1_ := Aside0.mk (Kd.R_below (by (with_reducible repeat (first | apply Kd.R_alloc | apply Kd.R_drewN | apply Kd.R_drew)); exact HO215.out) hb); have n2_ := Aside0.mk (Kd.R_below (by (with_reducible repeat (first | apply Kd.R_alloc | apply Kd.R_drewN | apply Kd.R_drew)); exact HO225.out) hb); have n3_ := Aside0.mk (blk_below (g := gb212) (o := .cells #[.int .i64 t206, .int .i64 t207, .int .i64 t208, .slice Ao18 t209.length co18] 27 (0, 0)) (by (with_reducible repeat (first | refine blk_drewN ?_ _ | refine blk_drew ?_ | refine blk_alloc ?_ _)); exact BK212.out) hb); have n4_ := Aside0.mk (below_step (by repeat (first | (with_reducible first | exact HB.out | apply below_alloc | apply pw_below_drewN | apply below_drew1 | refine below_set ?_ GE212.out) | exact HB.out)) hb); clear HO211; clear HO215; clear HO225; clear BK212; clear HB; have HO211 := n0_; have HO215 := n1_; have HO225 := n2_; have BK212 := n3_; have HB := n4_; clear n0_ n1_ n2_ n3_ n4_; (try clear hb); (try clear hb2); (try clear hk); (try clear hi))); try go_wp2_with (first | (go_at_call 10; (with_reducible refine (flow_Check.calls k t206 t207 t208 _ _ t209 _ _ t213 t228 _ ?side1 ?side2 ?side3 ?side4 A29.out).mono ?_); (case side1 => repeat (first | exact (Kd.R_reads' HO211.out).2.2 | (with_reducible refine Kd.C_alloc ?_ _) | (with_reducible refine Kd.C_drewN ?_ _) | (with_reducible refine Kd.C_drew ?_))); (case side2 => exact (Kd.R_reads' HO211.out).2.1); (case side3 => repeat (first | exact (Kd.R_reads' HO215.out).2.2 | (with_reducible refine Kd.C_alloc ?_ _) | (with_reducible refine Kd.C_drewN ?_ _) | (with_reducible refine Kd.C_drew ?_))); (case side4 => exact (Kd.R_reads' HO215.out).2.1); rintro e w47 ⟨rfl, hb⟩; have n0_ := Aside0.mk (Kd.R_below (by (with_reducible repeat (first | apply Kd.R_alloc | apply Kd.R_drewN | apply Kd.R_drew)); exact HO211.out) hb); have n1_ := Aside0.mk (Kd.R_below (by (with_reducible repeat (first | apply Kd.R_alloc | apply Kd.R_drewN | apply Kd.R_drew)); exact HO215.out) hb); have n2_ := Aside0.mk (Kd.R_below (by (with_reducible repeat (first | apply Kd.R_alloc | apply Kd.R_drewN | apply Kd.R_drew)); exact HO225.out) hb); have n3_ := Aside0.mk (blk_below (g := gb212) (o := .cells #[.int .i64 t206, .int .i64 t207, .int .i64 t208, .slice Ao18 t209.length co18] 27 (0, 0)) (by (with_reducible repeat (first | refine blk_drewN ?_ _ | refine blk_drew ?_ | refine blk_alloc ?_ _)); exact BK212.out) hb); have n4_ := Aside0.mk (below_step (by repeat (first | (with_reducible first | exact HB.out | apply below_alloc | apply pw_below_drewN | apply below_drew1 | refine below_set ?_ GE212.out) | exact HB.out)) hb); clear HO211; clear HO215; clear HO225; clear BK212; clear HB; have HO211 := n0_; have HO215 := n1_; have HO225 := n2_; have BK212 := n3_; have HB := n4_; clear n0_ n1_ n2_ n3_ n4_; (try clear hb); (try clear hb2); (try clear hk); (try clear hi))))
          go_meet
          case rel => exact ⟨_, (true), (by first | rfl | (simp; done) | (simp [*]; done)), H', ⟨by first | omega | exact Nat.le_refl _⟩, ⟨by (with_reducible repeat (first | apply Kd.R_alloc | apply Kd.R_drewN | apply Kd.R_drew)); exact HO215.out⟩, ⟨by (with_reducible repeat (first | apply Kd.R_alloc | apply Kd.R_drewN | apply Kd.R_drew)); exact Kd.R_mono HO211.out (fun _ hk => trivial)⟩, ⟨by (with_reducible repeat (first | refine blk_drewN ?_ _ | refine blk_drew ?_ | refine blk_alloc ?_ _)); exact BK212.out⟩, ⟨by repeat (first | (with_reducible first | exact HB.out | apply below_alloc | apply pw_below_drewN | apply below_drew1 | refine below_set ?_ GE212.out) | exact HB.out)⟩⟩
      · rw [if_neg c30] at H
        have c30b0 : (t228 == 0) = false := beq_eq_false_iff_ne.mpr c30
        have c30b1 : (t228 != 0) = true := bne_iff_ne.mpr c30
        (first | rw [c30b0] | (simp only [i64_w, i32_w]; rw [c30b0]) | skip)
        have H' := Aside0.mk H
        clear H
        have hcz48_0 : w28.cell? ⟨gb212, 0, none⟩ = some (.int .i64 t206) := (blk_cell BK212.out 0).trans rfl
        have hcz48_1 : w28.cell? ⟨gb212, 1, none⟩ = some (.int .i64 t207) := (blk_cell BK212.out 1).trans rfl
        have hcz48_2 : w28.cell? ⟨gb212, 2, none⟩ = some (.int .i64 t208) := (blk_cell BK212.out 2).trans rfl
        have hcz48_3 : w28.cell? ⟨gb212, 3, none⟩ = some (.slice Ao18 t209.length co18) := (blk_cell BK212.out 3).trans rfl
        have hfz48_0 := blk_frozen BK212.out 0
        have hfz48_1 := blk_frozen BK212.out 1
        have hfz48_2 := blk_frozen BK212.out 2
        have hfz48_3 := blk_frozen BK212.out 3
        go_wp2_with (first | (go_at_call 10; (with_reducible refine (flow_Check.calls k t206 t207 t208 _ _ t209 _ _ t213 t228 _ ?side1 ?side2 ?side3 ?side4 A29.out).mono ?_); (case side1 => repeat (first | exact (Kd.R_reads' HO211.out).2.2 | (with_reducible refine Kd.C_alloc ?_ _) | (with_reducible refine Kd.C_drewN ?_ _) | (with_reducible refine Kd.C_drew ?_))); (case side2 => exact (Kd.R_reads' HO211.out).2.1); (case side3 => repeat (first | exact (Kd.R_reads' HO215.out).2.2 | (with_reducible refine Kd.C_alloc ?_ _) | (with_reducible refine Kd.C_drewN ?_ _) | (with_reducible refine Kd.C_drew ?_))); (case side4 => exact (Kd.R_reads' HO215.out).2.1); rintro e w49 ⟨rfl, hb⟩; have n0_ := Aside0.mk (Kd.R_below (by (with_reducible repeat (first | apply Kd.R_alloc | apply Kd.R_drewN | apply Kd.R_drew)); exact HO211.out) hb); have n1_ := Aside0.mk (Kd.R_below (by (with_reducible repeat (first | apply Kd.R_alloc | apply Kd.R_drewN | apply Kd.R_drew)); exact HO215.out) hb); have n2_ := Aside0.mk (Kd.R_below (by (with_reducible repeat (first | apply Kd.R_alloc | apply Kd.R_drewN | apply Kd.R_drew)); exact HO225.out) hb); have n3_ := Aside0.mk (blk_below (g := gb212) (o := .cells #[.int .i64 t206, .int .i64 t207, .int .i64 t208, .slice Ao18 t209.length co18] 27 (0, 0)) (by (with_reducible repeat (first | refine blk_drewN ?_ _ | refine blk_drew ?_ | refine blk_alloc ?_ _)); exact BK212.out) hb); have n4_ := Aside0.mk (below_step (by repeat (first | (with_reducible first | exact HB.out | apply below_alloc | apply pw_below_drewN | apply below_drew1 | refine below_set ?_ GE212.out) | exact HB.out)) hb); clear HO211; clear HO215; clear HO225; clear BK212; clear HB; have HO211 := n0_; have HO215 := n1_; have HO225 := n2_; have BK212 := n3_; have HB := n4_; clear n0_ n1_ n2_ n3_ n4_; (try clear hb); (try clear hb2); (try clear hk); (try clear hi)))
        repeat (go_quiet (first | (go_at_call 10; (with_reducible refine (flow_Check.calls k t206 t207 t208 _ _ t209 _ _ t213 t228 _ ?side1 ?side2 ?side3 ?side4 A29.out).mono ?_); (case side1 => repeat (first | exact (Kd.R_reads' HO211.out).2.2 | (with_reducible refine Kd.C_alloc ?_ _) | (with_reducible refine Kd.C_drewN ?_ _) | (with_reducible refine Kd.C_drew ?_))); (case side2 => exact (Kd.R_reads' HO211.out).2.1); (case side3 => repeat (first | exact (Kd.R_reads' HO215.out).2.2 | (with_reducible refine Kd.C_alloc ?_ _) | (with_reducible refine Kd.C_drewN ?_ _) | (with_reducible refine Kd.C_drew ?_))); (case side4 => exact (Kd.R_reads' HO215.out).2.1); rintro e w49 ⟨rfl, hb⟩; have n0_ := Aside0.mk (Kd.R_below (by (with_reducible repeat (first | apply Kd.R_alloc | apply Kd.R_drewN | apply Kd.R_drew)); exact HO211.out) hb); have n1_ := Aside0.mk (Kd.R_below (by (with_reducible repeat (first | apply Kd.R_alloc | apply Kd.R_drewN | apply Kd.R_drew)); exact HO215.out) hb); have n2_ := Aside0.mk (Kd.R_below (by (with_reducible repeat (first | apply Kd.R_alloc | apply Kd.R_drewN | apply Kd.R_drew)); exact HO225.out) hb); have n3_ := Aside0.mk (blk_below (g := gb212) (o := .cells #[.int .i64 t206, .int .i64 t207, .int .i64 t208, .slice Ao18 t209.length co18] 27 (0, 0)) (by (with_reducible repeat (first | refine blk_drewN ?_ _ | refine blk_drew ?_ | refine blk_alloc ?_ _)); exact BK212.out) hb); have n4_ := Aside0.mk (below_step (by repeat (first | (with_reducible first | exact HB.out | apply below_alloc | apply pw_below_drewN | apply below_drew1 | refine below_set ?_ GE212.out) | exact HB.out)) hb); clear HO211; clear HO215; clear HO225; clear BK212; clear HB; have HO211 := n0_; have HO215 := n1_; have HO225 := n2_; have BK212 := n3_; have HB := n4_; clear n0_ n1_ n2_ n3_ n4_; (try clear hb); (try clear hb2); (try clear hk); (try clear hi))); try go_wp2_with (first | (go_at_call 10; (with_reducible refine (flow_Check.calls k t206 t207 t208 _ _ t209 _ _ t213 t228 _ ?side1 ?side2 ?side3 ?side4 A29.out).mono ?_); (case side1 => repeat (first | exact (Kd.R_reads' HO211.out).2.2 | (with_reducible refine Kd.C_alloc ?_ _) | (with_reducible refine Kd.C_drewN ?_ _) | (with_reducible refine Kd.C_drew ?_))); (case side2 => exact (Kd.R_reads' HO211.out).2.1); (case side3 => repeat (first | exact (Kd.R_reads' HO215.out).2.2 | (with_reducible refine Kd.C_alloc ?_ _) | (with_reducible refine Kd.C_drewN ?_ _) | (with_reducible refine Kd.C_drew ?_))); (case side4 => exact (Kd.R_reads' HO215.out).2.1); rintro e w49 ⟨rfl, hb⟩; have n0_ := Aside0.mk (Kd.R_below (by (with_reducible repeat (first | apply Kd.R_alloc | apply Kd.R_drewN | apply Kd.R_drew)); exact HO211.out) hb); have n1_ := Aside0.mk (Kd.R_below (by (with_reducible repeat (first | apply Kd.R_alloc | apply Kd.R_drewN | apply Kd.R_drew)); exact HO215.out) hb); have n2_ := Aside0.mk (Kd.R_below (by (with_reducible repeat (first | apply Kd.R_alloc | apply Kd.R_drewN | apply Kd.R_drew)); exact HO225.out) hb); have n3_ := Aside0.mk (blk_below (g := gb212) (o := .cells #[.int .i64 t206, .int .i64 t207, .int .i64 t208, .slice Ao18 t209.length co18] 27 (0, 0)) (by (with_reducible repeat (first | refine blk_drewN ?_ _ | refine blk_drew ?_ | refine blk_alloc ?_ _)); exact BK212.out) hb); have n4_ := Aside0.mk (below_step (by repeat (first | (with_reducible first | exact HB.out | apply below_alloc | apply pw_below_drewN | apply below_drew1 | refine below_set ?_ GE212.out) | exact HB.out)) hb); clear HO211; clear HO215; clear HO225; clear BK212; clear HB; have HO211 := n0_; have HO215 := n1_; have HO225 := n2_; have BK212 := n3_; have HB := n4_; clear n0_ n1_ n2_ n3_ n4_; (try clear hb); (try clear hb2); (try clear hk); (try clear hi))))
        go_meet
        case rel => exact ⟨_, (true), (by first | rfl | (simp; done) | (simp [*]; done)), H', ⟨by first | omega | exact Nat.le_refl _⟩, ⟨by (with_reducible repeat (first | apply Kd.R_alloc | apply Kd.R_drewN | apply Kd.R_drew)); exact HO215.out⟩, ⟨by (with_reducible repeat (first | apply Kd.R_alloc | apply Kd.R_drewN | apply Kd.R_drew)); exact Kd.R_mono HO211.out (fun _ hk => trivial)⟩, ⟨by (with_reducible repeat (first | refine blk_drewN ?_ _ | refine blk_drew ?_ | refine blk_alloc ?_ _)); exact BK212.out⟩, ⟨by repeat (first | (with_reducible first | exact HB.out | apply below_alloc | apply pw_below_drewN | apply below_drew1 | refine below_set ?_ GE212.out) | exact HB.out)⟩⟩
    case rest =>
      clear HC13
      try clear c2
      try clear p2
      try clear c3
      try clear c6
      try clear p6
      try clear c30
      try clear c30b0
      try clear c30b1
      try clear c31
      try clear c31b0
      try clear c31b1
      try clear c32
      try clear c32b0
      try clear c32b1
      try clear c33
      try clear c33b0
      try clear c33b1
      try clear c34
      try clear c34b0
      try clear c34b1
      try clear c35
      try clear c35b0
      try clear c35b1
      try clear hcz17_0
      try clear hcz17_1
      try clear hcz17_2
      try clear hcz17_3
      try clear hcz20_0
      try clear hcz20_1
      try clear hcz20_2
      try clear hcz20_3
      try clear hcz23_0
      try clear hcz23_1
      try clear hcz23_2
      try clear hcz23_3
      try clear hcz25_0
      try clear hcz25_1
      try clear hcz25_2
      try clear hcz25_3
      try clear hcz36_0
      try clear hcz36_1
      try clear hcz36_2
      try clear hcz36_3
      try clear hcz38_0
      try clear hcz38_1
      try clear hcz38_2
      try clear hcz38_3
      try clear hcz40_0
      try clear hcz40_1
      try clear hcz40_2
      try clear hcz40_3
      try clear hcz42_0
      try clear hcz42_1
      try clear hcz42_2
      try clear hcz42_3
      try clear hcz44_0
      try clear hcz44_1
      try clear hcz44_2
      try clear hcz44_3
      try clear hcz46_0
      try clear hcz46_1
      try clear hcz46_2
      try clear hcz46_3
      try clear hcz48_0
      try clear hcz48_1
      try clear hcz48_2
      try clear hcz48_3
      try clear hfz17_0
      try clear hfz17_1
      try clear hfz17_2
      try clear hfz17_3
      try clear hfz20_0
      try clear hfz20_1
      try clear hfz20_2
      try clear hfz20_3
      try clear hfz23_0
      try clear hfz23_1
      try clear hfz23_2
      try clear hfz23_3
      try clear hfz25_0
      try clear hfz25_1
      try clear hfz25_2
      try clear hfz25_3
      try clear hfz36_0
      try clear hfz36_1
      try clear hfz36_2
      try clear hfz36_3
      try clear hfz38_0
      try clear hfz38_1
      try clear hfz38_2
      try clear hfz38_3
      try clear hfz40_0
      try clear hfz40_1
      try clear hfz40_2
      try clear hfz40_3
      try clear hfz42_0
      try clear hfz42_1
      try clear hfz42_2
      try clear hfz42_3
      try clear hfz44_0
      try clear hfz44_1
      try clear hfz44_2
      try clear hfz44_3
      try clear hfz46_0
      try clear hfz46_1
      try clear hfz46_2
      try clear hfz46_3
      try clear hfz48_0
      try clear hfz48_1
      try clear hfz48_2
      try clear hfz48_3
      obtain ⟨kq, x85_12, rfl, HA, HJ12, HO_11, HO_213003, BK212, HB⟩ := hcut
      cases kq with
      | zero => exact absurd HA.out (by simp [racewaylaw5_FlowRoutes.j0])
      | succ kj12 =>
        have H := HA.out
        clear HA
        simp only [racewaylaw5_FlowRoutes.j0] at H
        by_cases c50 : x85_12 = true
        · subst c50
          have H1 : (some false) = some r := by rw [if_pos rfl] at H; exact H
          clear H
          have H := H1
          clear H1
          exact absurd ((Option.some.inj H).trans hrT_.out) (by simp)
        · replace c50 := Bool.eq_false_iff.mpr c50
          subst c50
          have H1 : (racewaylaw5_FlowRoutes.l0 kj12 t213 t216 0 1 t206 t207 t208 t209) = some r := by rw [if_neg (show ¬ (false = true) by decide)] at H; exact H
          clear H
          have H := H1
          clear H1
          have H' := Aside0.mk H
          clear H
          go_wp2
          repeat (go_quiet (fail); try go_wp2)
          go_loopg [18, 19] kj12 (fun kq v18 v19 w' => ∃ (x18_2 : Int) (x19_2 : Int), v18 = .int .i64 x18_2 ∧ v19 = .int .i64 x19_2 ∧ Aside0 (racewaylaw5_FlowRoutes.l0 kq t213 t216 x18_2 x19_2 t206 t207 t208 t209 = some r) ∧ Aside0 (kq ≤ kj12) ∧ Aside0 (Kd.R (Kd.int .i64) 2 w' w.heap.size (fun _ => True) (.slice Ao21 t213.length co21) t213) ∧ Aside0 (Kd.R k38 38 w' w.heap.size (fun _ => True) (.slice Ao18 t209.length co18) t209) ∧ Aside0 (w'.heap[gb212]? = some (.cells #[.int .i64 t206, .int .i64 t207, .int .i64 t208, (.slice Ao18 t209.length co18)] 27 (0, 0))) ∧ Aside0 (Below w.heap.size w w'))
          case atStart => exact ⟨(0), (1), (by first | rfl | (simp; done) | (simp [*]; done)), (by first | rfl | (simp; done) | (simp [*]; done)), H', ⟨Nat.le_refl _⟩, ⟨by (with_reducible repeat (first | apply Kd.R_alloc | apply Kd.R_drewN | apply Kd.R_drew)); exact HO_11.out⟩, ⟨by (with_reducible repeat (first | apply Kd.R_alloc | apply Kd.R_drewN | apply Kd.R_drew)); exact HO_213003.out⟩, ⟨by (with_reducible repeat (first | refine blk_drewN ?_ _ | refine blk_drew ?_ | refine blk_alloc ?_ _)); exact BK212.out⟩, ⟨by repeat (first | (with_reducible first | exact HB.out | apply below_alloc | apply pw_below_drewN | apply below_drew1 | refine below_set ?_ GE212.out) | exact HB.out)⟩⟩
          case round =>
            clear H'
            try clear c2
            try clear p2
            try clear c3
            try clear c5
            try clear c6
            try clear p6
            try clear c30
            try clear c30b0
            try clear c30b1
            try clear c31
            try clear c31b0
            try clear c31b1
            try clear c32
            try clear c32b0
            try clear c32b1
            try clear c33
            try clear c33b0
            try clear c33b1
            try clear c34
            try clear c34b0
            try clear c34b1
            try clear c35
            try clear c35b0
            try clear c35b1
            try clear c50
            try clear hcz17_0
            try clear hcz17_1
            try clear hcz17_2
            try clear hcz17_3
            try clear hcz20_0
            try clear hcz20_1
            try clear hcz20_2
            try clear hcz20_3
            try clear hcz23_0
            try clear hcz23_1
            try clear hcz23_2
            try clear hcz23_3
            try clear hcz25_0
            try clear hcz25_1
            try clear hcz25_2
            try clear hcz25_3
            try clear hcz36_0
            try clear hcz36_1
            try clear hcz36_2
            try clear hcz36_3
            try clear hcz38_0
            try clear hcz38_1
            try clear hcz38_2
            try clear hcz38_3
            try clear hcz40_0
            try clear hcz40_1
            try clear hcz40_2
            try clear hcz40_3
            try clear hcz42_0
            try clear hcz42_1
            try clear hcz42_2
            try clear hcz42_3
            try clear hcz44_0
            try clear hcz44_1
            try clear hcz44_2
            try clear hcz44_3
            try clear hcz46_0
            try clear hcz46_1
            try clear hcz46_2
            try clear hcz46_3
            try clear hcz48_0
            try clear hcz48_1
            try clear hcz48_2
            try clear hcz48_3
            try clear hfz17_0
            try clear hfz17_1
            try clear hfz17_2
            try clear hfz17_3
            try clear hfz20_0
            try clear hfz20_1
            try clear hfz20_2
            try clear hfz20_3
            try clear hfz23_0
            try clear hfz23_1
            try clear hfz23_2
            try clear hfz23_3
            try clear hfz25_0
            try clear hfz25_1
            try clear hfz25_2
            try clear hfz25_3
            try clear hfz36_0
            try clear hfz36_1
            try clear hfz36_2
            try clear hfz36_3
            try clear hfz38_0
            try clear hfz38_1
            try clear hfz38_2
            try clear hfz38_3
            try clear hfz40_0
            try clear hfz40_1
            try clear hfz40_2
            try clear hfz40_3
            try clear hfz42_0
            try clear hfz42_1
            try clear hfz42_2
            try clear hfz42_3
            try clear hfz44_0
            try clear hfz44_1
            try clear hfz44_2
            try clear hfz44_3
            try clear hfz46_0
            try clear hfz46_1
            try clear hfz46_2
            try clear hfz46_3
            try clear hfz48_0
            try clear hfz48_1
            try clear hfz48_2
            try clear hfz48_3
            try clear p2
            try clear p6
            obtain ⟨x18_2, x19_2, rfl, rfl, HA, HK2, HO_11, HO_213003, BK212, HB⟩ := hrel
            cases gk with
            | zero => exact absurd HA.out (by simp [racewaylaw5_FlowRoutes.l0])
            | succ k2 =>
              have H := HA.out
              clear HA
              simp only [racewaylaw5_FlowRoutes.l0] at H
              by_cases c51 : x19_2 ≤ t206
              · rw [if_pos c51] at H
                have c51b0 : decide (x19_2 ≤ t206) = true := decide_eq_true c51
                clear c51
                replace H := Option.bind_eq_some_iff.mp H
                obtain ⟨⟨t229, t230⟩, A520, H⟩ := H
                replace H : (if t230 = 0 then (if x19_2 = t207 then (racewaylaw5_FlowRoutes.l0 k2 t213 t216 (wrap64 (x18_2 + t229)) (wrap64 (x19_2 + 1)) t206 t207 t208 t209) else (if x19_2 = t208 then (racewaylaw5_FlowRoutes.l0 k2 t213 t216 (wrap64 (x18_2 + t229)) (wrap64 (x19_2 + 1)) t206 t207 t208 t209) else (if t229 = 0 then (racewaylaw5_FlowRoutes.l0 k2 t213 t216 (wrap64 (x18_2 + t229)) (wrap64 (x19_2 + 1)) t206 t207 t208 t209) else (some false)))) else (some false)) = some r := H
                have A52 := Aside0.mk A520
                clear A520
                by_cases c53 : t230 = 0
                · rw [if_pos c53] at H
                  have c53b0 : (t230 == 0) = true := beq_iff_eq.mpr c53
                  have c53b1 : (t230 != 0) = false := bne_eq_false_iff_eq.mpr c53
                  clear c53
                  by_cases c54 : x19_2 = t207
                  · rw [if_pos c54] at H
                    have c54b0 : (x19_2 == t207) = true := beq_iff_eq.mpr c54
                    have c54b1 : (x19_2 != t207) = false := bne_eq_false_iff_eq.mpr c54
                    clear c54
                    have H' := Aside0.mk H
                    clear H
                    have hcz55_0 : wr.cell? ⟨gb212, 0, none⟩ = some (.int .i64 t206) := (blk_cell BK212.out 0).trans rfl
                    have hcz55_1 : wr.cell? ⟨gb212, 1, none⟩ = some (.int .i64 t207) := (blk_cell BK212.out 1).trans rfl
                    have hcz55_2 : wr.cell? ⟨gb212, 2, none⟩ = some (.int .i64 t208) := (blk_cell BK212.out 2).trans rfl
                    have hcz55_3 : wr.cell? ⟨gb212, 3, none⟩ = some (.slice Ao18 t209.length co18) := (blk_cell BK212.out 3).trans rfl
                    have hfz55_0 := blk_frozen BK212.out 0
                    have hfz55_1 := blk_frozen BK212.out 1
                    have hfz55_2 := blk_frozen BK212.out 2
                    have hfz55_3 := blk_frozen BK212.out 3
                    go_wp2_with (first | (go_at_call 8; (with_reducible refine (flow_Excess.calls k2 t206 t207 t208 _ _ t209 _ _ t213 x19_2 t229 t230 _ ?side1 ?side2 ?side3 ?side4 A52.out).mono ?_); (case side1 => repeat (first | exact (Kd.R_reads' HO_213003.out).2.2 | (with_reducible refine Kd.C_alloc ?_ _) | (with_reducible refine Kd.C_drewN ?_ _) | (with_reducible refine Kd.C_drew ?_))); (case side2 => exact (Kd.R_reads' HO_213003.out).2.1); (case side3 => repeat (first | exact (Kd.R_reads' HO_11.out).2.2 | (with_reducible refine Kd.C_alloc ?_ _) | (with_reducible refine Kd.C_drewN ?_ _) | (with_reducible refine Kd.C_drew ?_))); (case side4 => exact (Kd.R_reads' HO_11.out).2.1); rintro e w56 ⟨rfl, hb⟩; have n0_ := Aside0.mk (Kd.R_below (by (with_reducible repeat (first | apply Kd.R_alloc | apply Kd.R_drewN | apply Kd.R_drew)); exact HO_11.out) hb); have n1_ := Aside0.mk (Kd.R_below (by (with_reducible repeat (first | apply Kd.R_alloc | apply Kd.R_drewN | apply Kd.R_drew)); exact HO_213003.out) hb); have n2_ := Aside0.mk (blk_below (g := gb212) (o := .cells #[.int .i64 t206, .int .i64 t207, .int .i64 t208, .slice Ao18 t209.length co18] 27 (0, 0)) (by (with_reducible repeat (first | refine blk_drewN ?_ _ | refine blk_drew ?_ | refine blk_alloc ?_ _)); exact BK212.out) hb); have n3_ := Aside0.mk (below_step (by repeat (first | (with_reducible first | exact HB.out | apply below_alloc | apply pw_below_drewN | apply below_drew1 | refine below_set ?_ GE212.out) | exact HB.out)) hb); clear HO_11; clear HO_213003; clear BK212; clear HB; have HO_11 := n0_; have HO_213003 := n1_; have BK212 := n2_; have HB := n3_; clear n0_ n1_ n2_ n3_; (try clear hb); (try clear hb2); (try clear hk); (try clear hi); have hcz57_0 : w56.cell? ⟨gb212, 0, none⟩ = some (.int .i64 t206) := (blk_cell BK212.out 0).trans rfl; have hcz57_1 : w56.cell? ⟨gb212, 1, none⟩ = some (.int .i64 t207) := (blk_cell BK212.out 1).trans rfl; have hcz57_2 : w56.cell? ⟨gb212, 2, none⟩ = some (.int .i64 t208) := (blk_cell BK212.out 2).trans rfl; have hcz57_3 : w56.cell? ⟨gb212, 3, none⟩ = some (.slice Ao18 t209.length co18) := (blk_cell BK212.out 3).trans rfl; have hfz57_0 := blk_frozen BK212.out 0; have hfz57_1 := blk_frozen BK212.out 1; have hfz57_2 := blk_frozen BK212.out 2; have hfz57_3 := blk_frozen BK212.out 3))
                    repeat (go_quiet (first | (go_at_call 8; (with_reducible refine (flow_Excess.calls k2 t206 t207 t208 _ _ t209 _ _ t213 x19_2 t229 t230 _ ?side1 ?side2 ?side3 ?side4 A52.out).mono ?_); (case side1 => repeat (first | exact (Kd.R_reads' HO_213003.out).2.2 | (with_reducible refine Kd.C_alloc ?_ _) | (with_reducible refine Kd.C_drewN ?_ _) | (with_reducible refine Kd.C_drew ?_))); (case side2 => exact (Kd.R_reads' HO_213003.out).2.1); (case side3 => repeat (first | exact (Kd.R_reads' HO_11.out).2.2 | (with_reducible refine Kd.C_alloc ?_ _) | (with_reducible refine Kd.C_drewN ?_ _) | (with_reducible refine Kd.C_drew ?_))); (case side4 => exact (Kd.R_reads' HO_11.out).2.1); rintro e w56 ⟨rfl, hb⟩; have n0_ := Aside0.mk (Kd.R_below (by (with_reducible repeat (first | apply Kd.R_alloc | apply Kd.R_drewN | apply Kd.R_drew)); exact HO_11.out) hb); have n1_ := Aside0.mk (Kd.R_below (by (with_reducible repeat (first | apply Kd.R_alloc | apply Kd.R_drewN | apply Kd.R_drew)); exact HO_213003.out) hb); have n2_ := Aside0.mk (blk_below (g := gb212) (o := .cells #[.int .i64 t206, .int .i64 t207, .int .i64 t208, .slice Ao18 t209.length co18] 27 (0, 0)) (by (with_reducible repeat (first | refine blk_drewN ?_ _ | refine blk_drew ?_ | refine blk_alloc ?_ _)); exact BK212.out) hb); have n3_ := Aside0.mk (below_step (by repeat (first | (with_reducible first | exact HB.out | apply below_alloc | apply pw_below_drewN | apply below_drew1 | refine below_set ?_ GE212.out) | exact HB.out)) hb); clear HO_11; clear HO_213003; clear BK212; clear HB; have HO_11 := n0_; have HO_213003 := n1_; have BK212 := n2_; have HB := n3_; clear n0_ n1_ n2_ n3_; (try clear hb); (try clear hb2); (try clear hk); (try clear hi); have hcz57_0 : w56.cell? ⟨gb212, 0, none⟩ = some (.int .i64 t206) := (blk_cell BK212.out 0).trans rfl; have hcz57_1 : w56.cell? ⟨gb212, 1, none⟩ = some (.int .i64 t207) := (blk_cell BK212.out 1).trans rfl; have hcz57_2 : w56.cell? ⟨gb212, 2, none⟩ = some (.int .i64 t208) := (blk_cell BK212.out 2).trans rfl; have hcz57_3 : w56.cell? ⟨gb212, 3, none⟩ = some (.slice Ao18 t209.length co18) := (blk_cell BK212.out 3).trans rfl; have hfz57_0 := blk_frozen BK212.out 0; have hfz57_1 := blk_frozen BK212.out 1; have hfz57_2 := blk_frozen BK212.out 2; have hfz57_3 := blk_frozen BK212.out 3)); try go_wp2_with (first | (go_at_call 8; (with_reducible refine (flow_Excess.calls k2 t206 t207 t208 _ _ t209 _ _ t213 x19_2 t229 t230 _ ?side1 ?side2 ?side3 ?side4 A52.out).mono ?_); (case side1 => repeat (first | exact (Kd.R_reads' HO_213003.out).2.2 | (with_reducible refine Kd.C_alloc ?_ _) | (with_reducible refine Kd.C_drewN ?_ _) | (with_reducible refine Kd.C_drew ?_))); (case side2 => exact (Kd.R_reads' HO_213003.out).2.1); (case side3 => repeat (first | exact (Kd.R_reads' HO_11.out).2.2 | (with_reducible refine Kd.C_alloc ?_ _) | (with_reducible refine Kd.C_drewN ?_ _) | (with_reducible refine Kd.C_drew ?_))); (case side4 => exact (Kd.R_reads' HO_11.out).2.1); rintro e w56 ⟨rfl, hb⟩; have n0_ := Aside0.mk (Kd.R_below (by (with_reducible repeat (first | apply Kd.R_alloc | apply Kd.R_drewN | apply Kd.R_drew)); exact HO_11.out) hb); have n1_ := Aside0.mk (Kd.R_below (by (with_reducible repeat (first | apply Kd.R_alloc | apply Kd.R_drewN | apply Kd.R_drew)); exact HO_213003.out) hb); have n2_ := Aside0.mk (blk_below (g := gb212) (o := .cells #[.int .i64 t206, .int .i64 t207, .int .i64 t208, .slice Ao18 t209.length co18] 27 (0, 0)) (by (with_reducible repeat (first | refine blk_drewN ?_ _ | refine blk_drew ?_ | refine blk_alloc ?_ _)); exact BK212.out) hb); have n3_ := Aside0.mk (below_step (by repeat (first | (with_reducible first | exact HB.out | apply below_alloc | apply pw_below_drewN | apply below_drew1 | refine below_set ?_ GE212.out) | exact HB.out)) hb); clear HO_11; clear HO_213003; clear BK212; clear HB; have HO_11 := n0_; have HO_213003 := n1_; have BK212 := n2_; have HB := n3_; clear n0_ n1_ n2_ n3_; (try clear hb); (try clear hb2); (try clear hk); (try clear hi); have hcz57_0 : w56.cell? ⟨gb212, 0, none⟩ = some (.int .i64 t206) := (blk_cell BK212.out 0).trans rfl; have hcz57_1 : w56.cell? ⟨gb212, 1, none⟩ = some (.int .i64 t207) := (blk_cell BK212.out 1).trans rfl; have hcz57_2 : w56.cell? ⟨gb212, 2, none⟩ = some (.int .i64 t208) := (blk_cell BK212.out 2).trans rfl; have hcz57_3 : w56.cell? ⟨gb212, 3, none⟩ = some (.slice Ao18 t209.length co18) := (blk_cell BK212.out 3).trans rfl; have hfz57_0 := blk_frozen BK212.out 0; have hfz57_1 := blk_frozen BK212.out 1; have hfz57_2 := blk_frozen BK212.out 2; have hfz57_3 := blk_frozen BK212.out 3)))
                    go_roundg k2
                    case measure => have := HJ12.out; have := HK2.out; omega
                    case rel => exact ⟨(wrap64 (x18_2 + t229)), (wrap64 (x19_2 + 1)), (by first | rfl | (simp; done) | (simp [*]; done)), (by first | rfl | (simp; done) | (simp [*]; done)), H', ⟨by have := HJ12.out; have := HK2.out; omega⟩, ⟨by (with_reducible repeat (first | apply Kd.R_alloc | apply Kd.R_drewN | apply Kd.R_drew)); exact HO_11.out⟩, ⟨by (with_reducible repeat (first | apply Kd.R_alloc | apply Kd.R_drewN | apply Kd.R_drew)); exact HO_213003.out⟩, ⟨by (with_reducible repeat (first | refine blk_drewN ?_ _ | refine blk_drew ?_ | refine blk_alloc ?_ _)); exact BK212.out⟩, ⟨by repeat (first | (with_reducible first | exact HB.out | apply below_alloc | apply pw_below_drewN | apply below_drew1 | refine below_set ?_ GE212.out) | exact HB.out)⟩⟩
                  · rw [if_neg c54] at H
                    have c54b0 : (x19_2 == t207) = false := beq_eq_false_iff_ne.mpr c54
                    have c54b1 : (x19_2 != t207) = true := bne_iff_ne.mpr c54
                    by_cases c58 : x19_2 = t208
                    · rw [if_pos c58] at H
                      have c58b0 : (x19_2 == t208) = true := beq_iff_eq.mpr c58
                      have c58b1 : (x19_2 != t208) = false := bne_eq_false_iff_eq.mpr c58
                      clear c58
                      have H' := Aside0.mk H
                      clear H
                      have hcz59_0 : wr.cell? ⟨gb212, 0, none⟩ = some (.int .i64 t206) := (blk_cell BK212.out 0).trans rfl
                      have hcz59_1 : wr.cell? ⟨gb212, 1, none⟩ = some (.int .i64 t207) := (blk_cell BK212.out 1).trans rfl
                      have hcz59_2 : wr.cell? ⟨gb212, 2, none⟩ = some (.int .i64 t208) := (blk_cell BK212.out 2).trans rfl
                      have hcz59_3 : wr.cell? ⟨gb212, 3, none⟩ = some (.slice Ao18 t209.length co18) := (blk_cell BK212.out 3).trans rfl
                      have hfz59_0 := blk_frozen BK212.out 0
                      have hfz59_1 := blk_frozen BK212.out 1
                      have hfz59_2 := blk_frozen BK212.out 2
                      have hfz59_3 := blk_frozen BK212.out 3
                      go_wp2_with (first | (go_at_call 8; (with_reducible refine (flow_Excess.calls k2 t206 t207 t208 _ _ t209 _ _ t213 x19_2 t229 t230 _ ?side1 ?side2 ?side3 ?side4 A52.out).mono ?_); (case side1 => repeat (first | exact (Kd.R_reads' HO_213003.out).2.2 | (with_reducible refine Kd.C_alloc ?_ _) | (with_reducible refine Kd.C_drewN ?_ _) | (with_reducible refine Kd.C_drew ?_))); (case side2 => exact (Kd.R_reads' HO_213003.out).2.1); (case side3 => repeat (first | exact (Kd.R_reads' HO_11.out).2.2 | (with_reducible refine Kd.C_alloc ?_ _) | (with_reducible refine Kd.C_drewN ?_ _) | (with_reducible refine Kd.C_drew ?_))); (case side4 => exact (Kd.R_reads' HO_11.out).2.1); rintro e w60 ⟨rfl, hb⟩; have n0_ := Aside0.mk (Kd.R_below (by (with_reducible repeat (first | apply Kd.R_alloc | apply Kd.R_drewN | apply Kd.R_drew)); exact HO_11.out) hb); have n1_ := Aside0.mk (Kd.R_below (by (with_reducible repeat (first | apply Kd.R_alloc | apply Kd.R_drewN | apply Kd.R_drew)); exact HO_213003.out) hb); have n2_ := Aside0.mk (blk_below (g := gb212) (o := .cells #[.int .i64 t206, .int .i64 t207, .int .i64 t208, .slice Ao18 t209.length co18] 27 (0, 0)) (by (with_reducible repeat (first | refine blk_drewN ?_ _ | refine blk_drew ?_ | refine blk_alloc ?_ _)); exact BK212.out) hb); have n3_ := Aside0.mk (below_step (by repeat (first | (with_reducible first | exact HB.out | apply below_alloc | apply pw_below_drewN | apply below_drew1 | refine below_set ?_ GE212.out) | exact HB.out)) hb); clear HO_11; clear HO_213003; clear BK212; clear HB; have HO_11 := n0_; have HO_213003 := n1_; have BK212 := n2_; have HB := n3_; clear n0_ n1_ n2_ n3_; (try clear hb); (try clear hb2); (try clear hk); (try clear hi); have hcz61_0 : w60.cell? ⟨gb212, 0, none⟩ = some (.int .i64 t206) := (blk_cell BK212.out 0).trans rfl; have hcz61_1 : w60.cell? ⟨gb212, 1, none⟩ = some (.int .i64 t207) := (blk_cell BK212.out 1).trans rfl; have hcz61_2 : w60.cell? ⟨gb212, 2, none⟩ = some (.int .i64 t208) := (blk_cell BK212.out 2).trans rfl; have hcz61_3 : w60.cell? ⟨gb212, 3, none⟩ = some (.slice Ao18 t209.length co18) := (blk_cell BK212.out 3).trans rfl; have hfz61_0 := blk_frozen BK212.out 0; have hfz61_1 := blk_frozen BK212.out 1; have hfz61_2 := blk_frozen BK212.out 2; have hfz61_3 := blk_frozen BK212.out 3))
                      repeat (go_quiet (first | (go_at_call 8; (with_reducible refine (flow_Excess.calls k2 t206 t207 t208 _ _ t209 _ _ t213 x19_2 t229 t230 _ ?side1 ?side2 ?side3 ?side4 A52.out).mono ?_); (case side1 => repeat (first | exact (Kd.R_reads' HO_213003.out).2.2 | (with_reducible refine Kd.C_alloc ?_ _) | (with_reducible refine Kd.C_drewN ?_ _) | (with_reducible refine Kd.C_drew ?_))); (case side2 => exact (Kd.R_reads' HO_213003.out).2.1); (case side3 => repeat (first | exact (Kd.R_reads' HO_11.out).2.2 | (with_reducible refine Kd.C_alloc ?_ _) | (with_reducible refine Kd.C_drewN ?_ _) | (with_reducible refine Kd.C_drew ?_))); (case side4 => exact (Kd.R_reads' HO_11.out).2.1); rintro e w60 ⟨rfl, hb⟩; have n0_ := Aside0.mk (Kd.R_below (by (with_reducible repeat (first | apply Kd.R_alloc | apply Kd.R_drewN | apply Kd.R_drew)); exact HO_11.out) hb); have n1_ := Aside0.mk (Kd.R_below (by (with_reducible repeat (first | apply Kd.R_alloc | apply Kd.R_drewN | apply Kd.R_drew)); exact HO_213003.out) hb); have n2_ := Aside0.mk (blk_below (g := gb212) (o := .cells #[.int .i64 t206, .int .i64 t207, .int .i64 t208, .slice Ao18 t209.length co18] 27 (0, 0)) (by (with_reducible repeat (first | refine blk_drewN ?_ _ | refine blk_drew ?_ | refine blk_alloc ?_ _)); exact BK212.out) hb); have n3_ := Aside0.mk (below_step (by repeat (first | (with_reducible first | exact HB.out | apply below_alloc | apply pw_below_drewN | apply below_drew1 | refine below_set ?_ GE212.out) | exact HB.out)) hb); clear HO_11; clear HO_213003; clear BK212; clear HB; have HO_11 := n0_; have HO_213003 := n1_; have BK212 := n2_; have HB := n3_; clear n0_ n1_ n2_ n3_; (try clear hb); (try clear hb2); (try clear hk); (try clear hi); have hcz61_0 : w60.cell? ⟨gb212, 0, none⟩ = some (.int .i64 t206) := (blk_cell BK212.out 0).trans rfl; have hcz61_1 : w60.cell? ⟨gb212, 1, none⟩ = some (.int .i64 t207) := (blk_cell BK212.out 1).trans rfl; have hcz61_2 : w60.cell? ⟨gb212, 2, none⟩ = some (.int .i64 t208) := (blk_cell BK212.out 2).trans rfl; have hcz61_3 : w60.cell? ⟨gb212, 3, none⟩ = some (.slice Ao18 t209.length co18) := (blk_cell BK212.out 3).trans rfl; have hfz61_0 := blk_frozen BK212.out 0; have hfz61_1 := blk_frozen BK212.out 1; have hfz61_2 := blk_frozen BK212.out 2; have hfz61_3 := blk_frozen BK212.out 3)); try go_wp2_with (first | (go_at_call 8; (with_reducible refine (flow_Excess.calls k2 t206 t207 t208 _ _ t209 _ _ t213 x19_2 t229 t230 _ ?side1 ?side2 ?side3 ?side4 A52.out).mono ?_); (case side1 => repeat (first | exact (Kd.R_reads' HO_213003.out).2.2 | (with_reducible refine Kd.C_alloc ?_ _) | (with_reducible refine Kd.C_drewN ?_ _) | (with_reducible refine Kd.C_drew ?_))); (case side2 => exact (Kd.R_reads' HO_213003.out).2.1); (case side3 => repeat (first | exact (Kd.R_reads' HO_11.out).2.2 | (with_reducible refine Kd.C_alloc ?_ _) | (with_reducible refine Kd.C_drewN ?_ _) | (with_reducible refine Kd.C_drew ?_))); (case side4 => exact (Kd.R_reads' HO_11.out).2.1); rintro e w60 ⟨rfl, hb⟩; have n0_ := Aside0.mk (Kd.R_below (by (with_reducible repeat (first | apply Kd.R_alloc | apply Kd.R_drewN | apply Kd.R_drew)); exact HO_11.out) hb); have n1_ := Aside0.mk (Kd.R_below (by (with_reducible repeat (first | apply Kd.R_alloc | apply Kd.R_drewN | apply Kd.R_drew)); exact HO_213003.out) hb); have n2_ := Aside0.mk (blk_below (g := gb212) (o := .cells #[.int .i64 t206, .int .i64 t207, .int .i64 t208, .slice Ao18 t209.length co18] 27 (0, 0)) (by (with_reducible repeat (first | refine blk_drewN ?_ _ | refine blk_drew ?_ | refine blk_alloc ?_ _)); exact BK212.out) hb); have n3_ := Aside0.mk (below_step (by repeat (first | (with_reducible first | exact HB.out | apply below_alloc | apply pw_below_drewN | apply below_drew1 | refine below_set ?_ GE212.out) | exact HB.out)) hb); clear HO_11; clear HO_213003; clear BK212; clear HB; have HO_11 := n0_; have HO_213003 := n1_; have BK212 := n2_; have HB := n3_; clear n0_ n1_ n2_ n3_; (try clear hb); (try clear hb2); (try clear hk); (try clear hi); have hcz61_0 : w60.cell? ⟨gb212, 0, none⟩ = some (.int .i64 t206) := (blk_cell BK212.out 0).trans rfl; have hcz61_1 : w60.cell? ⟨gb212, 1, none⟩ = some (.int .i64 t207) := (blk_cell BK212.out 1).trans rfl; have hcz61_2 : w60.cell? ⟨gb212, 2, none⟩ = some (.int .i64 t208) := (blk_cell BK212.out 2).trans rfl; have hcz61_3 : w60.cell? ⟨gb212, 3, none⟩ = some (.slice Ao18 t209.length co18) := (blk_cell BK212.out 3).trans rfl; have hfz61_0 := blk_frozen BK212.out 0; have hfz61_1 := blk_frozen BK212.out 1; have hfz61_2 := blk_frozen BK212.out 2; have hfz61_3 := blk_frozen BK212.out 3)))
                      go_roundg k2
                      case measure => have := HJ12.out; have := HK2.out; omega
                      case rel => exact ⟨(wrap64 (x18_2 + t229)), (wrap64 (x19_2 + 1)), (by first | rfl | (simp; done) | (simp [*]; done)), (by first | rfl | (simp; done) | (simp [*]; done)), H', ⟨by have := HJ12.out; have := HK2.out; omega⟩, ⟨by (with_reducible repeat (first | apply Kd.R_alloc | apply Kd.R_drewN | apply Kd.R_drew)); exact HO_11.out⟩, ⟨by (with_reducible repeat (first | apply Kd.R_alloc | apply Kd.R_drewN | apply Kd.R_drew)); exact HO_213003.out⟩, ⟨by (with_reducible repeat (first | refine blk_drewN ?_ _ | refine blk_drew ?_ | refine blk_alloc ?_ _)); exact BK212.out⟩, ⟨by repeat (first | (with_reducible first | exact HB.out | apply below_alloc | apply pw_below_drewN | apply below_drew1 | refine below_set ?_ GE212.out) | exact HB.out)⟩⟩
                    · rw [if_neg c58] at H
                      have c58b0 : (x19_2 == t208) = false := beq_eq_false_iff_ne.mpr c58
                      have c58b1 : (x19_2 != t208) = true := bne_iff_ne.mpr c58
                      by_cases c62 : t229 = 0
                      · rw [if_pos c62] at H
                        have c62b0 : (t229 == 0) = true := beq_iff_eq.mpr c62
                        have c62b1 : (t229 != 0) = false := bne_eq_false_iff_eq.mpr c62
                        clear c62
                        have H' := Aside0.mk H
                        clear H
                        have hcz63_0 : wr.cell? ⟨gb212, 0, none⟩ = some (.int .i64 t206) := (blk_cell BK212.out 0).trans rfl
                        have hcz63_1 : wr.cell? ⟨gb212, 1, none⟩ = some (.int .i64 t207) := (blk_cell BK212.out 1).trans rfl
                        have hcz63_2 : wr.cell? ⟨gb212, 2, none⟩ = some (.int .i64 t208) := (blk_cell BK212.out 2).trans rfl
                        have hcz63_3 : wr.cell? ⟨gb212, 3, none⟩ = some (.slice Ao18 t209.length co18) := (blk_cell BK212.out 3).trans rfl
                        have hfz63_0 := blk_frozen BK212.out 0
                        have hfz63_1 := blk_frozen BK212.out 1
                        have hfz63_2 := blk_frozen BK212.out 2
                        have hfz63_3 := blk_frozen BK212.out 3
                        go_wp2_with (first | (go_at_call 8; (with_reducible refine (flow_Excess.calls k2 t206 t207 t208 _ _ t209 _ _ t213 x19_2 t229 t230 _ ?side1 ?side2 ?side3 ?side4 A52.out).mono ?_); (case side1 => repeat (first | exact (Kd.R_reads' HO_213003.out).2.2 | (with_reducible refine Kd.C_alloc ?_ _) | (with_reducible refine Kd.C_drewN ?_ _) | (with_reducible refine Kd.C_drew ?_))); (case side2 => exact (Kd.R_reads' HO_213003.out).2.1); (case side3 => repeat (first | exact (Kd.R_reads' HO_11.out).2.2 | (with_reducible refine Kd.C_alloc ?_ _) | (with_reducible refine Kd.C_drewN ?_ _) | (with_reducible refine Kd.C_drew ?_))); (case side4 => exact (Kd.R_reads' HO_11.out).2.1); rintro e w64 ⟨rfl, hb⟩; have n0_ := Aside0.mk (Kd.R_below (by (with_reducible repeat (first | apply Kd.R_alloc | apply Kd.R_drewN | apply Kd.R_drew)); exact HO_11.out) hb); have n1_ := Aside0.mk (Kd.R_below (by (with_reducible repeat (first | apply Kd.R_alloc | apply Kd.R_drewN | apply Kd.R_drew)); exact HO_213003.out) hb); have n2_ := Aside0.mk (blk_below (g := gb212) (o := .cells #[.int .i64 t206, .int .i64 t207, .int .i64 t208, .slice Ao18 t209.length co18] 27 (0, 0)) (by (with_reducible repeat (first | refine blk_drewN ?_ _ | refine blk_drew ?_ | refine blk_alloc ?_ _)); exact BK212.out) hb); have n3_ := Aside0.mk (below_step (by repeat (first | (with_reducible first | exact HB.out | apply below_alloc | apply pw_below_drewN | apply below_drew1 | refine below_set ?_ GE212.out) | exact HB.out)) hb); clear HO_11; clear HO_213003; clear BK212; clear HB; have HO_11 := n0_; have HO_213003 := n1_; have BK212 := n2_; have HB := n3_; clear n0_ n1_ n2_ n3_; (try clear hb); (try clear hb2); (try clear hk); (try clear hi); have hcz65_0 : w64.cell? ⟨gb212, 0, none⟩ = some (.int .i64 t206) := (blk_cell BK212.out 0).trans rfl; have hcz65_1 : w64.cell? ⟨gb212, 1, none⟩ = some (.int .i64 t207) := (blk_cell BK212.out 1).trans rfl; have hcz65_2 : w64.cell? ⟨gb212, 2, none⟩ = some (.int .i64 t208) := (blk_cell BK212.out 2).trans rfl; have hcz65_3 : w64.cell? ⟨gb212, 3, none⟩ = some (.slice Ao18 t209.length co18) := (blk_cell BK212.out 3).trans rfl; have hfz65_0 := blk_frozen BK212.out 0; have hfz65_1 := blk_frozen BK212.out 1; have hfz65_2 := blk_frozen BK212.out 2; have hfz65_3 := blk_frozen BK212.out 3))
                        repeat (go_quiet (first | (go_at_call 8; (with_reducible refine (flow_Excess.calls k2 t206 t207 t208 _ _ t209 _ _ t213 x19_2 t229 t230 _ ?side1 ?side2 ?side3 ?side4 A52.out).mono ?_); (case side1 => repeat (first | exact (Kd.R_reads' HO_213003.out).2.2 | (with_reducible refine Kd.C_alloc ?_ _) | (with_reducible refine Kd.C_drewN ?_ _) | (with_reducible refine Kd.C_drew ?_))); (case side2 => exact (Kd.R_reads' HO_213003.out).2.1); (case side3 => repeat (first | exact (Kd.R_reads' HO_11.out).2.2 | (with_reducible refine Kd.C_alloc ?_ _) | (with_reducible refine Kd.C_drewN ?_ _) | (with_reducible refine Kd.C_drew ?_))); (case side4 => exact (Kd.R_reads' HO_11.out).2.1); rintro e w64 ⟨rfl, hb⟩; have n0_ := Aside0.mk (Kd.R_below (by (with_reducible repeat (first | apply Kd.R_alloc | apply Kd.R_drewN | apply Kd.R_drew)); exact HO_11.out) hb); have n1_ := Aside0.mk (Kd.R_below (by (with_reducible repeat (first | apply Kd.R_alloc | apply Kd.R_drewN | apply Kd.R_drew)); exact HO_213003.out) hb); have n2_ := Aside0.mk (blk_below (g := gb212) (o := .cells #[.int .i64 t206, .int .i64 t207, .int .i64 t208, .slice Ao18 t209.length co18] 27 (0, 0)) (by (with_reducible repeat (first | refine blk_drewN ?_ _ | refine blk_drew ?_ | refine blk_alloc ?_ _)); exact BK212.out) hb); have n3_ := Aside0.mk (below_step (by repeat (first | (with_reducible first | exact HB.out | apply below_alloc | apply pw_below_drewN | apply below_drew1 | refine below_set ?_ GE212.out) | exact HB.out)) hb); clear HO_11; clear HO_213003; clear BK212; clear HB; have HO_11 := n0_; have HO_213003 := n1_; have BK212 := n2_; have HB := n3_; clear n0_ n1_ n2_ n3_; (try clear hb); (try clear hb2); (try clear hk); (try clear hi); have hcz65_0 : w64.cell? ⟨gb212, 0, none⟩ = some (.int .i64 t206) := (blk_cell BK212.out 0).trans rfl; have hcz65_1 : w64.cell? ⟨gb212, 1, none⟩ = some (.int .i64 t207) := (blk_cell BK212.out 1).trans rfl; have hcz65_2 : w64.cell? ⟨gb212, 2, none⟩ = some (.int .i64 t208) := (blk_cell BK212.out 2).trans rfl; have hcz65_3 : w64.cell? ⟨gb212, 3, none⟩ = some (.slice Ao18 t209.length co18) := (blk_cell BK212.out 3).trans rfl; have hfz65_0 := blk_frozen BK212.out 0; have hfz65_1 := blk_frozen BK212.out 1; have hfz65_2 := blk_frozen BK212.out 2; have hfz65_3 := blk_frozen BK212.out 3)); try go_wp2_with (first | (go_at_call 8; (with_reducible refine (flow_Excess.calls k2 t206 t207 t208 _ _ t209 _ _ t213 x19_2 t229 t230 _ ?side1 ?side2 ?side3 ?side4 A52.out).mono ?_); (case side1 => repeat (first | exact (Kd.R_reads' HO_213003.out).2.2 | (with_reducible refine Kd.C_alloc ?_ _) | (with_reducible refine Kd.C_drewN ?_ _) | (with_reducible refine Kd.C_drew ?_))); (case side2 => exact (Kd.R_reads' HO_213003.out).2.1); (case side3 => repeat (first | exact (Kd.R_reads' HO_11.out).2.2 | (with_reducible refine Kd.C_alloc ?_ _) | (with_reducible refine Kd.C_drewN ?_ _) | (with_reducible refine Kd.C_drew ?_))); (case side4 => exact (Kd.R_reads' HO_11.out).2.1); rintro e w64 ⟨rfl, hb⟩; have n0_ := Aside0.mk (Kd.R_below (by (with_reducible repeat (first | apply Kd.R_alloc | apply Kd.R_drewN | apply Kd.R_drew)); exact HO_11.out) hb); have n1_ := Aside0.mk (Kd.R_below (by (with_reducible repeat (first | apply Kd.R_alloc | apply Kd.R_drewN | apply Kd.R_drew)); exact HO_213003.out) hb); have n2_ := Aside0.mk (blk_below (g := gb212) (o := .cells #[.int .i64 t206, .int .i64 t207, .int .i64 t208, .slice Ao18 t209.length co18] 27 (0, 0)) (by (with_reducible repeat (first | refine blk_drewN ?_ _ | refine blk_drew ?_ | refine blk_alloc ?_ _)); exact BK212.out) hb); have n3_ := Aside0.mk (below_step (by repeat (first | (with_reducible first | exact HB.out | apply below_alloc | apply pw_below_drewN | apply below_drew1 | refine below_set ?_ GE212.out) | exact HB.out)) hb); clear HO_11; clear HO_213003; clear BK212; clear HB; have HO_11 := n0_; have HO_213003 := n1_; have BK212 := n2_; have HB := n3_; clear n0_ n1_ n2_ n3_; (try clear hb); (try clear hb2); (try clear hk); (try clear hi); have hcz65_0 : w64.cell? ⟨gb212, 0, none⟩ = some (.int .i64 t206) := (blk_cell BK212.out 0).trans rfl; have hcz65_1 : w64.cell? ⟨gb212, 1, none⟩ = some (.int .i64 t207) := (blk_cell BK212.out 1).trans rfl; have hcz65_2 : w64.cell? ⟨gb212, 2, none⟩ = some (.int .i64 t208) := (blk_cell BK212.out 2).trans rfl; have hcz65_3 : w64.cell? ⟨gb212, 3, none⟩ = some (.slice Ao18 t209.length co18) := (blk_cell BK212.out 3).trans rfl; have hfz65_0 := blk_frozen BK212.out 0; have hfz65_1 := blk_frozen BK212.out 1; have hfz65_2 := blk_frozen BK212.out 2; have hfz65_3 := blk_frozen BK212.out 3)))
                        go_roundg k2
                        case measure => have := HJ12.out; have := HK2.out; omega
                        case rel => exact ⟨(wrap64 (x18_2 + t229)), (wrap64 (x19_2 + 1)), (by first | rfl | (simp; done) | (simp [*]; done)), (by first | rfl | (simp; done) | (simp [*]; done)), H', ⟨by have := HJ12.out; have := HK2.out; omega⟩, ⟨by (with_reducible repeat (first | apply Kd.R_alloc | apply Kd.R_drewN | apply Kd.R_drew)); exact HO_11.out⟩, ⟨by (with_reducible repeat (first | apply Kd.R_alloc | apply Kd.R_drewN | apply Kd.R_drew)); exact HO_213003.out⟩, ⟨by (with_reducible repeat (first | refine blk_drewN ?_ _ | refine blk_drew ?_ | refine blk_alloc ?_ _)); exact BK212.out⟩, ⟨by repeat (first | (with_reducible first | exact HB.out | apply below_alloc | apply pw_below_drewN | apply below_drew1 | refine below_set ?_ GE212.out) | exact HB.out)⟩⟩
                      · rw [if_neg c62] at H
                        have c62b0 : (t229 == 0) = false := beq_eq_false_iff_ne.mpr c62
                        have c62b1 : (t229 != 0) = true := bne_iff_ne.mpr c62
                        exact absurd ((Option.some.inj H).trans hrT_.out) (by simp)
                · rw [if_neg c53] at H
                  have c53b0 : (t230 == 0) = false := beq_eq_false_iff_ne.mpr c53
                  have c53b1 : (t230 != 0) = true := bne_iff_ne.mpr c53
                  exact absurd ((Option.some.inj H).trans hrT_.out) (by simp)
              · rw [if_neg c51] at H
                have c51b0 : decide (x19_2 ≤ t206) = false := decide_eq_false c51
                clear c51
                have H' := Aside0.mk H
                clear H
                have hcz66_0 : wr.cell? ⟨gb212, 0, none⟩ = some (.int .i64 t206) := (blk_cell BK212.out 0).trans rfl
                have hcz66_1 : wr.cell? ⟨gb212, 1, none⟩ = some (.int .i64 t207) := (blk_cell BK212.out 1).trans rfl
                have hcz66_2 : wr.cell? ⟨gb212, 2, none⟩ = some (.int .i64 t208) := (blk_cell BK212.out 2).trans rfl
                have hcz66_3 : wr.cell? ⟨gb212, 3, none⟩ = some (.slice Ao18 t209.length co18) := (blk_cell BK212.out 3).trans rfl
                have hfz66_0 := blk_frozen BK212.out 0
                have hfz66_1 := blk_frozen BK212.out 1
                have hfz66_2 := blk_frozen BK212.out 2
                have hfz66_3 := blk_frozen BK212.out 3
                go_wp2
                repeat (go_quiet (fail); try go_wp2)
                go_loopg [22, 23] k2 (fun kq v22 v23 w' => ∃ (x22_3 : Int) (x23_3 : Int), v22 = .int .i64 x22_3 ∧ v23 = .int .i64 x23_3 ∧ Aside0 (racewaylaw5_FlowRoutes.l1 kq t216 x18_2 x22_3 x23_3 t206 t207 t208 t209 = some r) ∧ Aside0 (kq ≤ k2) ∧ Aside0 (Kd.R k38 38 w' w.heap.size (fun _ => True) (.slice Ao18 t209.length co18) t209) ∧ Aside0 (w'.heap[gb212]? = some (.cells #[.int .i64 t206, .int .i64 t207, .int .i64 t208, (.slice Ao18 t209.length co18)] 27 (0, 0))) ∧ Aside0 (Below w.heap.size w w'))
                case atStart => exact ⟨(0), (0), (by first | rfl | (simp; done) | (simp [*]; done)), (by first | rfl | (simp; done) | (simp [*]; done)), H', ⟨Nat.le_refl _⟩, ⟨by (with_reducible repeat (first | apply Kd.R_alloc | apply Kd.R_drewN | apply Kd.R_drew)); exact HO_213003.out⟩, ⟨by (with_reducible repeat (first | refine blk_drewN ?_ _ | refine blk_drew ?_ | refine blk_alloc ?_ _)); exact BK212.out⟩, ⟨by repeat (first | (with_reducible first | exact HB.out | apply below_alloc | apply pw_below_drewN | apply below_drew1 | refine below_set ?_ GE212.out) | exact HB.out)⟩⟩
                case round =>
                  clear H'
                  try clear c2
                  try clear p2
                  try clear c3
                  try clear c5
                  try clear c6
                  try clear p6
                  try clear c30
                  try clear c30b0
                  try clear c30b1
                  try clear c31
                  try clear c31b0
                  try clear c31b1
                  try clear c32
                  try clear c32b0
                  try clear c32b1
                  try clear c33
                  try clear c33b0
                  try clear c33b1
                  try clear c34
                  try clear c34b0
                  try clear c34b1
                  try clear c35
                  try clear c35b0
                  try clear c35b1
                  try clear c50
                  try clear c51
                  try clear c51b0
                  try clear c53
                  try clear c53b0
                  try clear c53b1
                  try clear c54
                  try clear c54b0
                  try clear c54b1
                  try clear c58
                  try clear c58b0
                  try clear c58b1
                  try clear c62
                  try clear c62b0
                  try clear c62b1
                  try clear p64
                  try clear hcz17_0
                  try clear hcz17_1
                  try clear hcz17_2
                  try clear hcz17_3
                  try clear hcz20_0
                  try clear hcz20_1
                  try clear hcz20_2
                  try clear hcz20_3
                  try clear hcz23_0
                  try clear hcz23_1
                  try clear hcz23_2
                  try clear hcz23_3
                  try clear hcz25_0
                  try clear hcz25_1
                  try clear hcz25_2
                  try clear hcz25_3
                  try clear hcz36_0
                  try clear hcz36_1
                  try clear hcz36_2
                  try clear hcz36_3
                  try clear hcz38_0
                  try clear hcz38_1
                  try clear hcz38_2
                  try clear hcz38_3
                  try clear hcz40_0
                  try clear hcz40_1
                  try clear hcz40_2
                  try clear hcz40_3
                  try clear hcz42_0
                  try clear hcz42_1
                  try clear hcz42_2
                  try clear hcz42_3
                  try clear hcz44_0
                  try clear hcz44_1
                  try clear hcz44_2
                  try clear hcz44_3
                  try clear hcz46_0
                  try clear hcz46_1
                  try clear hcz46_2
                  try clear hcz46_3
                  try clear hcz48_0
                  try clear hcz48_1
                  try clear hcz48_2
                  try clear hcz48_3
                  try clear hcz55_0
                  try clear hcz55_1
                  try clear hcz55_2
                  try clear hcz55_3
                  try clear hcz57_0
                  try clear hcz57_1
                  try clear hcz57_2
                  try clear hcz57_3
                  try clear hcz59_0
                  try clear hcz59_1
                  try clear hcz59_2
                  try clear hcz59_3
                  try clear hcz61_0
                  try clear hcz61_1
                  try clear hcz61_2
                  try clear hcz61_3
                  try clear hcz63_0
                  try clear hcz63_1
                  try clear hcz63_2
                  try clear hcz63_3
                  try clear hcz65_0
                  try clear hcz65_1
                  try clear hcz65_2
                  try clear hcz65_3
                  try clear hcz66_0
                  try clear hcz66_1
                  try clear hcz66_2
                  try clear hcz66_3
                  try clear hfz17_0
                  try clear hfz17_1
                  try clear hfz17_2
                  try clear hfz17_3
                  try clear hfz20_0
                  try clear hfz20_1
                  try clear hfz20_2
                  try clear hfz20_3
                  try clear hfz23_0
                  try clear hfz23_1
                  try clear hfz23_2
                  try clear hfz23_3
                  try clear hfz25_0
                  try clear hfz25_1
                  try clear hfz25_2
                  try clear hfz25_3
                  try clear hfz36_0
                  try clear hfz36_1
                  try clear hfz36_2
                  try clear hfz36_3
                  try clear hfz38_0
                  try clear hfz38_1
                  try clear hfz38_2
                  try clear hfz38_3
                  try clear hfz40_0
                  try clear hfz40_1
                  try clear hfz40_2
                  try clear hfz40_3
                  try clear hfz42_0
                  try clear hfz42_1
                  try clear hfz42_2
                  try clear hfz42_3
                  try clear hfz44_0
                  try clear hfz44_1
                  try clear hfz44_2
                  try clear hfz44_3
                  try clear hfz46_0
                  try clear hfz46_1
                  try clear hfz46_2
                  try clear hfz46_3
                  try clear hfz48_0
                  try clear hfz48_1
                  try clear hfz48_2
                  try clear hfz48_3
                  try clear hfz55_0
                  try clear hfz55_1
                  try clear hfz55_2
                  try clear hfz55_3
                  try clear hfz57_0
                  try clear hfz57_1
                  try clear hfz57_2
                  try clear hfz57_3
                  try clear hfz59_0
                  try clear hfz59_1
                  try clear hfz59_2
                  try clear hfz59_3
                  try clear hfz61_0
                  try clear hfz61_1
                  try clear hfz61_2
                  try clear hfz61_3
                  try clear hfz63_0
                  try clear hfz63_1
                  try clear hfz63_2
                  try clear hfz63_3
                  try clear hfz65_0
                  try clear hfz65_1
                  try clear hfz65_2
                  try clear hfz65_3
                  try clear hfz66_0
                  try clear hfz66_1
                  try clear hfz66_2
                  try clear hfz66_3
                  try clear p2
                  try clear p6
                  obtain ⟨x22_3, x23_3, rfl, rfl, HA, HK3, HO_213003, BK212, HB⟩ := hrel
                  cases gk with
                  | zero => exact absurd HA.out (by simp [racewaylaw5_FlowRoutes.l1])
                  | succ k3 =>
                    have H := HA.out
                    clear HA
                    simp only [racewaylaw5_FlowRoutes.l1] at H
                    by_cases c67 : x23_3 < (t209.length : Int)
                    · rw [if_pos c67] at H
                      have c67b0 : decide (x23_3 < (t209.length : Int)) = true := decide_eq_true c67
                      clear c67
                      by_cases c68 : 0 ≤ x23_3
                      · rw [if_pos c68] at H
                        have c68b0 : decide (0 ≤ x23_3) = true := decide_eq_true c68
                        clear c68
                        by_cases c69 : ((rd_T38 t209 x23_3).f1) = t208
                        · rw [if_pos c69] at H
                          have c69b0 : (((rd_T38 t209 x23_3).f1) == t208) = true := beq_iff_eq.mpr c69
                          have c69b1 : (((rd_T38 t209 x23_3).f1) != t208) = false := bne_eq_false_iff_eq.mpr c69
                          clear c69
                          have H' := Aside0.mk H
                          clear H
                          have hcz70_0 : wr.cell? ⟨gb212, 0, none⟩ = some (.int .i64 t206) := (blk_cell BK212.out 0).trans rfl
                          have hcz70_1 : wr.cell? ⟨gb212, 1, none⟩ = some (.int .i64 t207) := (blk_cell BK212.out 1).trans rfl
                          have hcz70_2 : wr.cell? ⟨gb212, 2, none⟩ = some (.int .i64 t208) := (blk_cell BK212.out 2).trans rfl
                          have hcz70_3 : wr.cell? ⟨gb212, 3, none⟩ = some (.slice Ao18 t209.length co18) := (blk_cell BK212.out 3).trans rfl
                          have hfz70_0 := blk_frozen BK212.out 0
                          have hfz70_1 := blk_frozen BK212.out 1
                          have hfz70_2 := blk_frozen BK212.out 2
                          have hfz70_3 := blk_frozen BK212.out 3
                          have p231 : 0 ≤ (x23_3 : Int) := of_decide_eq_true (by first | (with_reducible assumption) | assumption)
                          have q231 : x23_3 < (t209.length : Int) := of_decide_eq_true (by first | (with_reducible assumption) | assumption)
                          obtain ⟨ad231, e231, hx231_0, hx231_1, hx231_2⟩ := at_T38 (Kd.R_reads' HO_213003.out).2.2 x23_3 p231 q231
                          cases e231
                          replace p231 := eq_true p231
                          replace q231 := eq_true q231
                          have p232 : 0 ≤ (x23_3 : Int) := of_decide_eq_true (by first | (with_reducible assumption) | assumption)
                          have q232 : x23_3 < (t209.length : Int) := of_decide_eq_true (by first | (with_reducible assumption) | assumption)
                          obtain ⟨ad232, e232, hx232_0, hx232_1, hx232_2⟩ := at_T38 (Kd.R_reads' HO_213003.out).2.2 x23_3 p232 q232
                          obtain rfl : ad231 = ad232 := (by injection e232)
                          replace p232 := eq_true p232
                          replace q232 := eq_true q232
                          go_wp2
                          repeat (go_quiet (fail); try go_wp2)
                          go_roundg k3
                          case measure => have := HJ12.out; have := HK2.out; have := HK3.out; omega
                          case rel => exact ⟨(wrap64 (x22_3 + ((rd_T38 t209 x23_3).f2))), (wrap64 (x23_3 + 1)), (by first | rfl | (simp; done) | (simp [*]; done)), (by first | rfl | (simp; done) | (simp [*]; done)), H', ⟨by have := HJ12.out; have := HK2.out; have := HK3.out; omega⟩, ⟨by (with_reducible repeat (first | apply Kd.R_alloc | apply Kd.R_drewN | apply Kd.R_drew)); exact HO_213003.out⟩, ⟨by (with_reducible repeat (first | refine blk_drewN ?_ _ | refine blk_drew ?_ | refine blk_alloc ?_ _)); exact BK212.out⟩, ⟨by repeat (first | (with_reducible first | exact HB.out | apply below_alloc | apply pw_below_drewN | apply below_drew1 | refine below_set ?_ GE212.out) | exact HB.out)⟩⟩
                        · rw [if_neg c69] at H
                          have c69b0 : (((rd_T38 t209 x23_3).f1) == t208) = false := beq_eq_false_iff_ne.mpr c69
                          have c69b1 : (((rd_T38 t209 x23_3).f1) != t208) = true := bne_iff_ne.mpr c69
                          have H' := Aside0.mk H
                          clear H
                          have hcz71_0 : wr.cell? ⟨gb212, 0, none⟩ = some (.int .i64 t206) := (blk_cell BK212.out 0).trans rfl
                          have hcz71_1 : wr.cell? ⟨gb212, 1, none⟩ = some (.int .i64 t207) := (blk_cell BK212.out 1).trans rfl
                          have hcz71_2 : wr.cell? ⟨gb212, 2, none⟩ = some (.int .i64 t208) := (blk_cell BK212.out 2).trans rfl
                          have hcz71_3 : wr.cell? ⟨gb212, 3, none⟩ = some (.slice Ao18 t209.length co18) := (blk_cell BK212.out 3).trans rfl
                          have hfz71_0 := blk_frozen BK212.out 0
                          have hfz71_1 := blk_frozen BK212.out 1
                          have hfz71_2 := blk_frozen BK212.out 2
                          have hfz71_3 := blk_frozen BK212.out 3
                          have p231 : 0 ≤ (x23_3 : Int) := of_decide_eq_true (by first | (with_reducible assumption) | assumption)
                          have q231 : x23_3 < (t209.length : Int) := of_decide_eq_true (by first | (with_reducible assumption) | assumption)
                          obtain ⟨ad231, e231, hx231_0, hx231_1, hx231_2⟩ := at_T38 (Kd.R_reads' HO_213003.out).2.2 x23_3 p231 q231
                          cases e231
                          replace p231 := eq_true p231
                          replace q231 := eq_true q231
                          go_wp2
                          repeat (go_quiet (fail); try go_wp2)
                          go_roundg k3
                          case measure => have := HJ12.out; have := HK2.out; have := HK3.out; omega
                          case rel => exact ⟨(x22_3), (wrap64 (x23_3 + 1)), (by first | rfl | (simp; done) | (simp [*]; done)), (by first | rfl | (simp; done) | (simp [*]; done)), H', ⟨by have := HJ12.out; have := HK2.out; have := HK3.out; omega⟩, ⟨by (with_reducible repeat (first | apply Kd.R_alloc | apply Kd.R_drewN | apply Kd.R_drew)); exact HO_213003.out⟩, ⟨by (with_reducible repeat (first | refine blk_drewN ?_ _ | refine blk_drew ?_ | refine blk_alloc ?_ _)); exact BK212.out⟩, ⟨by repeat (first | (with_reducible first | exact HB.out | apply below_alloc | apply pw_below_drewN | apply below_drew1 | refine below_set ?_ GE212.out) | exact HB.out)⟩⟩
                      · rw [if_neg c68] at H
                        exact absurd H (by simp)
                    · rw [if_neg c67] at H
                      have c67b0 : decide (x23_3 < (t209.length : Int)) = false := decide_eq_false c67
                      clear c67
                      by_cases c72 : x18_2 = 0
                      · rw [if_pos c72] at H
                        have c72b0 : (x18_2 == 0) = true := beq_iff_eq.mpr c72
                        have c72b1 : (x18_2 != 0) = false := bne_eq_false_iff_eq.mpr c72
                        clear c72
                        obtain rfl := Option.some.inj H
                        have hcz73_0 : wr.cell? ⟨gb212, 0, none⟩ = some (.int .i64 t206) := (blk_cell BK212.out 0).trans rfl
                        have hcz73_1 : wr.cell? ⟨gb212, 1, none⟩ = some (.int .i64 t207) := (blk_cell BK212.out 1).trans rfl
                        have hcz73_2 : wr.cell? ⟨gb212, 2, none⟩ = some (.int .i64 t208) := (blk_cell BK212.out 2).trans rfl
                        have hcz73_3 : wr.cell? ⟨gb212, 3, none⟩ = some (.slice Ao18 t209.length co18) := (blk_cell BK212.out 3).trans rfl
                        have hfz73_0 := blk_frozen BK212.out 0
                        have hfz73_1 := blk_frozen BK212.out 1
                        have hfz73_2 := blk_frozen BK212.out 2
                        have hfz73_3 := blk_frozen BK212.out 3
                        go_wp2
                        repeat (go_quiet (fail); try go_wp2)
                        go_ret
                        exact ⟨by first | rfl | (simp [errW_none, errW_some] <;> rfl) | (simp [*, errW_none, errW_some] <;> rfl), by repeat (first | (with_reducible first | exact HB.out | apply below_alloc | apply pw_below_drewN | apply below_drew1 | refine below_set ?_ GE212.out) | exact HB.out)⟩
                      · rw [if_neg c72] at H
                        have c72b0 : (x18_2 == 0) = false := beq_eq_false_iff_ne.mpr c72
                        have c72b1 : (x18_2 != 0) = true := bne_iff_ne.mpr c72
                        exact absurd ((Option.some.inj H).trans hrT_.out) (by simp)
  · replace c6 := Bool.eq_false_iff.mpr c6
    subst c6
    have H1 : (some false) = some r := by rw [if_neg (show ¬ (false = true) by decide)] at H; exact H
    clear H
    have H := H1
    clear H1
    exact absurd ((Option.some.inj H).trans hrT_.out) (by simp)

/-- THE ONE PURE STATEMENT of racewaylaw5_FlowRoutes. -/
def racewaylaw5_FlowRoutes.Pure : Prop := ∀ (a0 : Int) (a1 : Int) (l2 : List (S42)) (l3 : List Int), (Lit.int .i64 a0).wf = true → (Lit.int .i64 a1).wf = true → l2.length ≤ maxLen → (∀ x ∈ l2, (Lit.int .i64 x.f0).wf = true ∧ (Lit.int .i64 x.f1).wf = true ∧ (Lit.int .i64 x.f2).wf = true) → l3.length ≤ maxLen → l3.length * 8 ≤ 140737488351232 → (∀ x ∈ l3, (Lit.int .i64 x).wf = true) → ∃ k, racewaylaw5_FlowRoutes.f k a0 a1 l2 l3 = some true
theorem racewaylaw5_FlowRoutes.walk (P : racewaylaw5_FlowRoutes.Pure) (a0 : Int) (a1 : Int) (A2 : Option Addr) (c2 : Nat) (l2 : List (S42)) (A3 : Option Addr) (c3 : Nat) (l3 : List Int) (w : World) (w0 : (Lit.int .i64 a0).wf = true) (w1 : (Lit.int .i64 a1).wf = true) (hr2 : Kd.C k42 w A2 l2.length l2) (hc2 : l2.length ≤ c2) (hm2 : l2.length ≤ maxLen) (hw2 : (∀ x ∈ l2, (Lit.int .i64 x.f0).wf = true ∧ (Lit.int .i64 x.f1).wf = true ∧ (Lit.int .i64 x.f2).wf = true)) (hr3 : Kd.C (Kd.int .i64) w A3 l3.length l3) (hc3 : l3.length ≤ c3) (hm3 : l3.length ≤ maxLen) (y3 : l3.length * 8 ≤ 140737488351232) (hw3 : (∀ x ∈ l3, (Lit.int .i64 x).wf = true)) :
    Calls Try.prog 3 #[.int .i64 a0, .int .i64 a1, .slice A2 l2.length c2, .slice A3 l3.length c3] w fun e w' => e = .returned (.bool true) ∧ Below w.heap.size w w' := by
  obtain ⟨k, h⟩ := P a0 a1 l2 l3 w0 w1 hm2 hw2 hm3 y3 hw3
  refine (racewaylaw5_FlowRoutes.calls k a0 a1 _ _ l2 _ _ l3 true w hr2 hc2 hr3 hc3 h ⟨rfl⟩).mono ?_
  rintro e w' ⟨rfl, hd⟩
  exact ⟨rfl, hd⟩

end Go.Proofs.Ytbonhjjhohbggaa.PFlowRoutes
