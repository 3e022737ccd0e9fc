/- For the law FlowAdds, for every input: printed by a program (wip/myprint), contracts by hand where it says MANUAL. -/
-- slim
import Derived.Test.YtlkpapkcgafgeaaPFlowAddsx0
import Derived.Test.YtlkpapkcgafgeaaPFlowAddsx5
import Derived.Test.YtlkpapkcgafgeaaPFlowAddsx6
import Derived.Test.YtlkpapkcgafgeaaPFlowAddsx7
import Derived.Test.YtlkpapkcgafgeaaPFlowAddsx8
import Derived.Test.YtlkpapkcgafgeaaPFlowAddsx9
import Derived.Test.YtlkpapkcgafgeaaPFlowAddsx11
import Derived.Test.YtlkpapkcgafgeaaPFlowAddsx12
import Derived.Test.YtlkpapkcgafgeaaPFlowAddsx13
namespace Go.Proofs.Ytlkpapkcgafgeaa.PFlowAdds
open Go.RowKit Go.Proofs.YtlkpapkcgafgeaaW.PrintWords Go.Proofs.YtlkpapkcgafgeaaW.PrintLast Go.Proofs.YtlkpapkcgafgeaaW.PrintMore
attribute [local go_sem] max2_int min2_int max_two min_two max_three min_three max_four min_four
set_option linter.unusedVariables false
set_option linter.unusedSimpArgs false
/-! ### racewaylaw5_FlowAdds: function 4 -/
mutual
def racewaylaw5_FlowAdds.j0 : Nat → Int → List Int → List Int → List Int → Int → Bool → Int → Int → Int → List (S34) → Option (Bool)
 | 0, _, _, _, _, _, _, _, _, _, _ => none
 | k + 1, x5, x15, x16, x17, x18, x87, x215000, x215001, x215002, x215003 => if x87 = true then (some false) else (if x18 = 0 then ((flow_Value.f k x215000 x215001 x215002 x215003 x15).bind fun bt238 => ((flow_Value.f k x215000 x215001 x215002 x215003 x16).bind fun bt240 => ((flow_Value.f k x215000 x215001 x215002 x215003 x17).bind fun bt242 => (if bt242.2 = 0 then (if bt242.1 = (wrap64 (bt238.1 + bt240.1)) then (racewaylaw5_FlowAdds.j1 k x5 x15 x18 x215000 x215001 x215002 x215003) else (some false)) else (some false))))) else (racewaylaw5_FlowAdds.j1 k x5 x15 x18 x215000 x215001 x215002 x215003))
def racewaylaw5_FlowAdds.j1 : Nat → Int → List Int → Int → Int → Int → Int → List (S34) → Option (Bool)
 | 0, _, _, _, _, _, _, _ => none
 | k + 1, x5, x15, x18, x215000, x215001, x215002, x215003 => if (x15.length : Int) = 0 then (some (x18 == 0)) else ((racewaylaw5_pick.f x5 (x15.length : Int)).bind fun t244 => (if 0 ≤ t244 then (if t244 < (x215003.length : Int) then (if t244 < (x15.length : Int) then ((some (x15.set (t244 : Int).toNat (wrap64 ((rd x15 t244) + 1)) : List Int)).bind fun y248 => ((flow_Check.f k x215000 x215001 x215002 x215003 y248).bind fun t249 => (if (rd y248 t244) > ((rd_T34 x215003 t244).f2) then (some (t249 == 3)) else (if ((rd_T34 x215003 t244).f0) = ((rd_T34 x215003 t244).f1) then (if t249 = 0 then (some true) else (some false)) else (if ((rd_T34 x215003 t244).f0) = x215001 then (if ((rd_T34 x215003 t244).f1) = x215001 then (if t249 = 0 then (some true) else (some false)) else (if t249 = 0 then (if ((rd_T34 x215003 t244).f1) = x215002 then (some true) else (some false)) else (if ((rd_T34 x215003 t244).f1) = x215002 then (some false) else (some (t249 == 9))))) else (if ((rd_T34 x215003 t244).f0) = x215002 then (if ((rd_T34 x215003 t244).f1) = x215001 then (if t249 = 0 then (some true) else (some false)) else (if t249 = 0 then (if ((rd_T34 x215003 t244).f1) = x215002 then (some true) else (some false)) else (if ((rd_T34 x215003 t244).f1) = x215002 then (some false) else (some (t249 == 9))))) else (if t249 = 0 then (some false) else (some (t249 == 9))))))))) else (none)) else (none)) else (none)))
end
def racewaylaw5_FlowAdds.f (k : Nat) (a0 : Int) (a1 : Int) (l2 : List (S58)) (l3 : List Int) (l4 : List Int) (a5 : Int) : Option (Bool) := (racewaylaw5_shown.f k).bind fun t207 => (if t207 = true then ((racewaylaw5_made.f k a0 a1 l2).bind fun bt208 => ((racewaylaw5_routed.f k bt208.1 bt208.2.1 bt208.2.2.1 bt208.2.2.2 l3).bind fun t215 => ((racewaylaw5_routed.f k bt208.1 bt208.2.1 bt208.2.2.1 bt208.2.2.2 l4).bind fun t218 => ((flow_Add.f k bt208.1 bt208.2.1 bt208.2.2.1 bt208.2.2.2 t215 t218).bind fun bt221 => ((flow_Add.f k bt208.1 bt208.2.1 bt208.2.2.1 bt208.2.2.2 t218 t215).bind fun bt225 => (if 0 ≤ (t215.length : Int) then (if ((t215.length : Int) : Int).toNat ≤ 35184372088832 then ((flow_Add.f k bt208.1 bt208.2.1 bt208.2.2.1 bt208.2.2.2 t215 (List.replicate ((t215.length : Int) : Int).toNat 0)).bind fun bt232 => (if bt221.2 = bt225.2 then ((racewayref5_Same.f k bt221.1 bt225.1).bind fun t236 => (if t236 = true then (if bt232.2 = 0 then ((racewayref5_Same.f k bt232.1 t215).bind fun t237 => (racewaylaw5_FlowAdds.j0 k a5 t215 t218 bt221.1 bt221.2 (!t237) bt208.1 bt208.2.1 bt208.2.2.1 bt208.2.2.2)) else (racewaylaw5_FlowAdds.j0 k a5 t215 t218 bt221.1 bt221.2 true bt208.1 bt208.2.1 bt208.2.2.1 bt208.2.2.2)) else (racewaylaw5_FlowAdds.j0 k a5 t215 t218 bt221.1 bt221.2 true bt208.1 bt208.2.1 bt208.2.2.1 bt208.2.2.2))) else (racewaylaw5_FlowAdds.j0 k a5 t215 t218 bt221.1 bt221.2 true bt208.1 bt208.2.1 bt208.2.2.1 bt208.2.2.2))) else (none)) else (none))))))) else (some false))
theorem racewaylaw5_FlowAdds.mono_l : ∀ k, (∀ y0 y1 y2 y3 y4 y5 y6 y7 y8 y9, LeO (racewaylaw5_FlowAdds.j0 k y0 y1 y2 y3 y4 y5 y6 y7 y8 y9) (racewaylaw5_FlowAdds.j0 (k + 1) y0 y1 y2 y3 y4 y5 y6 y7 y8 y9)) ∧ (∀ y0 y1 y2 y3 y4 y5 y6, LeO (racewaylaw5_FlowAdds.j1 k y0 y1 y2 y3 y4 y5 y6) (racewaylaw5_FlowAdds.j1 (k + 1) y0 y1 y2 y3 y4 y5 y6))
 | 0 => ⟨fun _ _ _ _ _ _ _ _ _ _ r h => by simp [racewaylaw5_FlowAdds.j0] at h, fun _ _ _ _ _ _ _ r h => by simp [racewaylaw5_FlowAdds.j1] at h⟩
 | k + 1 => by
  obtain ⟨ih0, ih1⟩ := racewaylaw5_FlowAdds.mono_l k
  refine ⟨?_, ?_⟩
  ·intro y0 y1 y2 y3 y4 y5 y6 y7 y8 y9
   unfold racewaylaw5_FlowAdds.j0
   repeat' first
   | (with_reducible exact ih0 _ _ _ _ _ _ _ _ _ _)
   | (with_reducible exact ih1 _ _ _ _ _ _ _)
   | (with_reducible exact flow_Add.mono _ _ _ _ _ _ _)
   | (with_reducible exact flow_Check.mono _ _ _ _ _ _)
   | (with_reducible exact flow_Value.mono _ _ _ _ _ _)
   | (with_reducible exact racewaylaw5_made.mono _ _ _ _)
   | (with_reducible exact racewaylaw5_routed.mono _ _ _ _ _ _)
   | (with_reducible exact racewaylaw5_shown.mono _)
   | (with_reducible exact racewayref5_Same.mono _ _ _)
   | (with_reducible exact LeO.refl _)
   | (with_reducible exact LeO.none _)
   | (with_reducible refine LeO.ite ?_ ?_)
   | (with_reducible refine LeO.bind ?_ (fun _ => ?_))
   | exact ih0 _ _ _ _ _ _ _ _ _ _
   | exact ih1 _ _ _ _ _ _ _
   | exact flow_Add.mono _ _ _ _ _ _ _
   | exact flow_Check.mono _ _ _ _ _ _
   | exact flow_Value.mono _ _ _ _ _ _
   | exact racewaylaw5_made.mono _ _ _ _
   | exact racewaylaw5_routed.mono _ _ _ _ _ _
   | exact racewaylaw5_shown.mono _
   | exact racewayref5_Same.mono _ _ _
   | exact LeO.none _
   | refine LeO.ite ?_ ?_
   | refine LeO.bind ?_ (fun _ => ?_)
  ·intro y0 y1 y2 y3 y4 y5 y6
   unfold racewaylaw5_FlowAdds.j1
   repeat' first
   | (with_reducible exact ih0 _ _ _ _ _ _ _ _ _ _)
   | (with_reducible exact ih1 _ _ _ _ _ _ _)
   | (with_reducible exact flow_Add.mono _ _ _ _ _ _ _)
   | (with_reducible exact flow_Check.mono _ _ _ _ _ _)
   | (with_reducible exact flow_Value.mono _ _ _ _ _ _)
   | (with_reducible exact racewaylaw5_made.mono _ _ _ _)
   | (with_reducible exact racewaylaw5_routed.mono _ _ _ _ _ _)
   | (with_reducible exact racewaylaw5_shown.mono _)
   | (with_reducible exact racewayref5_Same.mono _ _ _)
   | (with_reducible exact LeO.refl _)
   | (with_reducible exact LeO.none _)
   | (with_reducible refine LeO.ite ?_ ?_)
   | (with_reducible refine LeO.bind ?_ (fun _ => ?_))
   | exact ih0 _ _ _ _ _ _ _ _ _ _
   | exact ih1 _ _ _ _ _ _ _
   | exact flow_Add.mono _ _ _ _ _ _ _
   | exact flow_Check.mono _ _ _ _ _ _
   | exact flow_Value.mono _ _ _ _ _ _
   | exact racewaylaw5_made.mono _ _ _ _
   | exact racewaylaw5_routed.mono _ _ _ _ _ _
   | exact racewaylaw5_shown.mono _
   | exact racewayref5_Same.mono _ _ _
   | exact LeO.none _
   | refine LeO.ite ?_ ?_
   | refine LeO.bind ?_ (fun _ => ?_)
theorem racewaylaw5_FlowAdds.mono : ∀ a0 a1 a2 a3 a4 a5 k, LeO (racewaylaw5_FlowAdds.f k a0 a1 a2 a3 a4 a5) (racewaylaw5_FlowAdds.f (k + 1) a0 a1 a2 a3 a4 a5) := by
 intro a0 a1 a2 a3 a4 a5 k
 obtain ⟨ih0, ih1⟩ := racewaylaw5_FlowAdds.mono_l k
 unfold racewaylaw5_FlowAdds.f
 repeat' first
   | (with_reducible exact ih0 _ _ _ _ _ _ _ _ _ _)
   | (with_reducible exact ih1 _ _ _ _ _ _ _)
   | (with_reducible exact flow_Add.mono _ _ _ _ _ _ _)
   | (with_reducible exact flow_Check.mono _ _ _ _ _ _)
   | (with_reducible exact flow_Value.mono _ _ _ _ _ _)
   | (with_reducible exact racewaylaw5_made.mono _ _ _ _)
   | (with_reducible exact racewaylaw5_routed.mono _ _ _ _ _ _)
   | (with_reducible exact racewaylaw5_shown.mono _)
   | (with_reducible exact racewayref5_Same.mono _ _ _)
   | (with_reducible exact LeO.refl _)
   | (with_reducible exact LeO.none _)
   | (with_reducible refine LeO.ite ?_ ?_)
   | (with_reducible refine LeO.bind ?_ (fun _ => ?_))
   | exact ih0 _ _ _ _ _ _ _ _ _ _
   | exact ih1 _ _ _ _ _ _ _
   | exact flow_Add.mono _ _ _ _ _ _ _
   | exact flow_Check.mono _ _ _ _ _ _
   | exact flow_Value.mono _ _ _ _ _ _
   | exact racewaylaw5_made.mono _ _ _ _
   | exact racewaylaw5_routed.mono _ _ _ _ _ _
   | exact racewaylaw5_shown.mono _
   | exact racewayref5_Same.mono _ _ _
   | exact LeO.none _
   | refine LeO.ite ?_ ?_
   | refine LeO.bind ?_ (fun _ => ?_)
def racewaylaw5_FlowAdds.T9 : Bool × List (List Nat × List Nat) := (true, [([], []), ([], []), ([], []), ([2], [2]), ([3, 3], [3]), ([0, 1, 4], [0, 1, 4]), ([5], [5]), ([6], [6]), ([6], [6]), ([7, 5, 0, 1, 2, 3, 4, 5, 6, 7], [7]), ([8, 9, 0, 1, 2, 3, 4, 5, 6, 7, 8, 9], [8])])
def racewaylaw5_FlowAdds.B9 : List Nat := [0, 0, 0, 4, 12, 31, 63, 127, 127, 255, 1023]
theorem racewaylaw5_FlowAdds.tab9 : rtab .any (opsOf Try.f4 9) = racewaylaw5_FlowAdds.T9 := by kernel_rfl
theorem racewaylaw5_FlowAdds.bits9 : waitsOk racewaylaw5_FlowAdds.T9.2 racewaylaw5_FlowAdds.B9 = true := by kernel_rfl
def m0_ : Array Bool := #[false, false, false, false, false, false, false]
def m1_ : Array Bool := #[true, false, false, false, false, false, false]
def m2_ : Array Bool := #[true, true, false, false, false, false, false]
def m3_ : Array Bool := #[true, true, true, false, false, false, false]
def m4_ : Array Bool := #[true, true, true, false, true, false, false]
def m5_ : Array Bool := #[true, true, true, true, true, false, false]
def m6_ : Array Bool := #[true, true, true, true, true, true, false]
def m7_ : Array Bool := #[true, true, true, true, true, true, true]
/-- THE ONE PURE STATEMENT of racewaylaw5_FlowAdds. -/
def racewaylaw5_FlowAdds.Pure : Prop := ∀ (a0 : Int) (a1 : Int) (l2 : List (S58)) (l3 : List Int) (l4 : List Int) (a5 : Int),(Lit.int .i64 a0).wf = true → (Lit.int .i64 a1).wf = true → l2.length ≤ maxLen → (∀ x ∈ l2,(Lit.int .i64 x.f0).wf = true ∧ (Lit.int .i64 x.f1).wf = true ∧ (Lit.int .i64 x.f2).wf = true) → l3.length ≤ maxLen → l3.length * 8 ≤ 140737488351232 → (∀ x ∈ l3,(Lit.int .i64 x).wf = true) → l4.length ≤ maxLen → l4.length * 8 ≤ 140737488351232 → (∀ x ∈ l4,(Lit.int .i64 x).wf = true) → (Lit.int .i64 a5).wf = true → ∃ k,racewaylaw5_FlowAdds.f k a0 a1 l2 l3 l4 a5 = some true
end Go.Proofs.Ytlkpapkcgafgeaa.PFlowAdds
