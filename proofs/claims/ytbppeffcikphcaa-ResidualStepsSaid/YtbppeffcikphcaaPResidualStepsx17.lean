/- For the claim that the law ResidualSteps of the given program holds for every input: a text written by a program (wip/myprint over the kit's print), with contracts by hand where it says MANUAL. -/
-- slim
import Derived.Test.YtbppeffcikphcaaPResidualStepsx0
import Derived.Test.YtbppeffcikphcaaPResidualStepsx7
import Derived.Test.YtbppeffcikphcaaPResidualStepsx8
import Derived.Test.YtbppeffcikphcaaPResidualStepsx9
import Derived.Test.YtbppeffcikphcaaPResidualStepsx11
import Derived.Test.YtbppeffcikphcaaPResidualStepsx12
import Derived.Test.YtbppeffcikphcaaPResidualStepsx13
import Derived.Test.YtbppeffcikphcaaPResidualStepsx15
import Derived.Test.YtbppeffcikphcaaPResidualStepsx16
namespace Go.Proofs.Ytbppeffcikphcaa.PResidualSteps
open Go.RowKit Go.Proofs.YtbppeffcikphcaaW.PrintWords Go.Proofs.YtbppeffcikphcaaW.PrintLast Go.Proofs.YtbppeffcikphcaaW.PrintMore
attribute [local go_sem] max2_int min2_int max_two min_two max_three min_three max_four min_four   -- for this text's walks alone
set_option linter.unusedVariables false
set_option linter.unusedSimpArgs false

/-! ### racewaylaw6_ResidualSteps: function 7 -/
mutual
def racewaylaw6_ResidualSteps.j0 : Nat → Int → Int → List (S68) → List Int → List Int → Int → Bool → Bool → Option (Bool)
 | 0, _, _, _, _, _, _, _, _ => none
 | k + 1, x0, x1, x2, x3, x4, x5, x13, x39 => if x39 = true then (some x13) else ((racewaylaw6_made.f k x0 x1 x2).bind fun bt235 => ((racewaylaw6_routed.f k bt235.1 bt235.2.1 bt235.2.2.1 bt235.2.2.2 x3).bind fun t242 => (if 0 ≤ (wrap64 (bt235.1 + 1)) then (if (wrap64 (bt235.1 + 1) : Int).toNat ≤ 281474976710656 then (racewaylaw6_ResidualSteps.l0 k x4 x5 t242 (List.replicate (wrap64 (bt235.1 + 1) : Int).toNat false) bt235.2.1 ([] : List Int) 0 bt235.1 bt235.2.1 bt235.2.2.1 bt235.2.2.2) else (none)) else (none))))
def racewaylaw6_ResidualSteps.j3 : Nat → Int → List Int → List Int → Int → Int → Int → List (S49) → Option (Bool)
 | 0, _, _, _, _, _, _, _ => none
 | k + 1, x5, x15, x18, x242000, x242001, x242002, x242003 => (racewaylaw6_pick.f x5 12).bind fun t261 => ((residual_Push.f k x242000 x242001 x242002 x242003 x15 x18 (wrap64 (1 + t261))).bind fun bt262 => (racewaylaw6_ResidualSteps.l1 k x18 (wrap64 (1 + t261)) bt262.1 bt262.2 x15 0 0 x242000 x242001 x242002 x242003))
def racewaylaw6_ResidualSteps.l1 : Nat → List Int → Int → List Int → Int → List Int → Int → Int → Int → Int → Int → List (S49) → Option (Bool)
 | 0, _, _, _, _, _, _, _, _, _, _, _ => none
 | k + 1, x18, x24, x25, x26, x27, x28, x29, x242000, x242001, x242002, x242003 => if x29 < x24 then (racewaylaw6_ResidualSteps.j5 k x18 x24 x25 x26 x27 x28 x29 (x28 == 0) x242000 x242001 x242002 x242003) else (racewaylaw6_ResidualSteps.j5 k x18 x24 x25 x26 x27 x28 x29 false x242000 x242001 x242002 x242003)
def racewaylaw6_ResidualSteps.j5 : Nat → List Int → Int → List Int → Int → List Int → Int → Int → Bool → Int → Int → Int → List (S49) → Option (Bool)
 | 0, _, _, _, _, _, _, _, _, _, _, _, _ => none
 | k + 1, x18, x24, x25, x26, x27, x28, x29, x119, x242000, x242001, x242002, x242003 => if x119 = true then ((residual_Push.f k x242000 x242001 x242002 x242003 x27 x18 1).bind fun bt266 => (if bt266.2 = 0 then (racewaylaw6_ResidualSteps.l1 k x18 x24 x25 x26 bt266.1 bt266.2 (wrap64 (x29 + 1)) x242000 x242001 x242002 x242003) else (racewaylaw6_ResidualSteps.l1 k x18 x24 x25 x26 x27 bt266.2 (wrap64 (x29 + 1)) x242000 x242001 x242002 x242003))) else (if x28 = x26 then (if x26 = 0 then ((racewayref5_Same.f k x27 x25).bind fun t270 => (some t270)) else (some true)) else (some false))
def racewaylaw6_ResidualSteps.l0 : Nat → List Int → Int → List Int → List Bool → Int → List Int → Int → Int → Int → Int → List (S49) → Option (Bool)
 | 0, _, _, _, _, _, _, _, _, _, _, _ => none
 | k + 1, x4, x5, x15, x16, x17, x18, x19, x242000, x242001, x242002, x242003 => if x19 < (x4.length : Int) then (racewaylaw6_ResidualSteps.j2 k x4 x5 x15 x16 x17 x18 x19 (x17 != x242002) x242000 x242001 x242002 x242003) else (racewaylaw6_ResidualSteps.j2 k x4 x5 x15 x16 x17 x18 x19 false x242000 x242001 x242002 x242003)
def racewaylaw6_ResidualSteps.j2 : Nat → List Int → Int → List Int → List Bool → Int → List Int → Int → Bool → Int → Int → Int → List (S49) → Option (Bool)
 | 0, _, _, _, _, _, _, _, _, _, _, _, _ => none
 | k + 1, x4, x5, x15, x16, x17, x18, x19, x63, x242000, x242001, x242002, x242003 => if x63 = true then (if 0 ≤ x17 then (if x17 < (x16.length : Int) then ((some (x16.set (x17 : Int).toNat true : List Bool)).bind fun y248 => ((residual_From.f k x242000 x242001 x242002 x242003 x17).bind fun t249 => (if (t249.length : Int) = 0 then (racewaylaw6_ResidualSteps.j3 k x5 x15 x18 x242000 x242001 x242002 x242003) else (if 0 ≤ x19 then (if x19 < (x4.length : Int) then ((racewaylaw6_pick.f (rd x4 x19) (t249.length : Int)).bind fun t253 => (if 0 ≤ t253 then (if t253 < (t249.length : Int) then ((residual_Ends.f k x242000 x242001 x242002 x242003 (rd t249 t253)).bind fun bt255 => (if 0 ≤ bt255.2 then (if bt255.2 < (x16.length : Int) then (if rdOf false y248 bt255.2 = true then (racewaylaw6_ResidualSteps.l0 k x4 x5 x15 y248 x17 x18 (wrap64 (x19 + 1)) x242000 x242001 x242002 x242003) else (if x18.length < 17592186044416 then (racewaylaw6_ResidualSteps.l0 k x4 x5 x15 y248 bt255.2 (x18 ++ [rd t249 t253]) (wrap64 (x19 + 1)) x242000 x242001 x242002 x242003) else (none))) else (none)) else (none))) else (none)) else (none))) else (none)) else (none))))) else (none)) else (none)) else (racewaylaw6_ResidualSteps.j3 k x5 x15 x18 x242000 x242001 x242002 x242003)
end
def racewaylaw6_ResidualSteps.f (k : Nat) (a0 : Int) (a1 : Int) (l2 : List (S68)) (l3 : List Int) (l4 : List Int) (a5 : Int) : Option (Bool) := (racewaylaw6_shown.f k).bind fun t234 => (if t234 = true then (racewaylaw6_ResidualSteps.j0 k a0 a1 l2 l3 l4 a5 t234 (decide ((l4.length : Int) > 60))) else (racewaylaw6_ResidualSteps.j0 k a0 a1 l2 l3 l4 a5 t234 true))
theorem racewaylaw6_ResidualSteps.mono_l : ∀ k, (∀ y0 y1 y2 y3 y4 y5 y6 y7, LeO (racewaylaw6_ResidualSteps.j0 k y0 y1 y2 y3 y4 y5 y6 y7) (racewaylaw6_ResidualSteps.j0 (k + 1) y0 y1 y2 y3 y4 y5 y6 y7)) ∧ (∀ y0 y1 y2 y3 y4 y5 y6, LeO (racewaylaw6_ResidualSteps.j3 k y0 y1 y2 y3 y4 y5 y6) (racewaylaw6_ResidualSteps.j3 (k + 1) y0 y1 y2 y3 y4 y5 y6)) ∧ (∀ y0 y1 y2 y3 y4 y5 y6 y7 y8 y9 y10, LeO (racewaylaw6_ResidualSteps.l1 k y0 y1 y2 y3 y4 y5 y6 y7 y8 y9 y10) (racewaylaw6_ResidualSteps.l1 (k + 1) y0 y1 y2 y3 y4 y5 y6 y7 y8 y9 y10)) ∧ (∀ y0 y1 y2 y3 y4 y5 y6 y7 y8 y9 y10 y11, LeO (racewaylaw6_ResidualSteps.j5 k y0 y1 y2 y3 y4 y5 y6 y7 y8 y9 y10 y11) (racewaylaw6_ResidualSteps.j5 (k + 1) y0 y1 y2 y3 y4 y5 y6 y7 y8 y9 y10 y11)) ∧ (∀ y0 y1 y2 y3 y4 y5 y6 y7 y8 y9 y10, LeO (racewaylaw6_ResidualSteps.l0 k y0 y1 y2 y3 y4 y5 y6 y7 y8 y9 y10) (racewaylaw6_ResidualSteps.l0 (k + 1) y0 y1 y2 y3 y4 y5 y6 y7 y8 y9 y10)) ∧ (∀ y0 y1 y2 y3 y4 y5 y6 y7 y8 y9 y10 y11, LeO (racewaylaw6_ResidualSteps.j2 k y0 y1 y2 y3 y4 y5 y6 y7 y8 y9 y10 y11) (racewaylaw6_ResidualSteps.j2 (k + 1) y0 y1 y2 y3 y4 y5 y6 y7 y8 y9 y10 y11))
 | 0 => ⟨fun _ _ _ _ _ _ _ _ r h => by simp [racewaylaw6_ResidualSteps.j0] at h, fun _ _ _ _ _ _ _ r h => by simp [racewaylaw6_ResidualSteps.j3] at h, fun _ _ _ _ _ _ _ _ _ _ _ r h => by simp [racewaylaw6_ResidualSteps.l1] at h, fun _ _ _ _ _ _ _ _ _ _ _ _ r h => by simp [racewaylaw6_ResidualSteps.j5] at h, fun _ _ _ _ _ _ _ _ _ _ _ r h => by simp [racewaylaw6_ResidualSteps.l0] at h, fun _ _ _ _ _ _ _ _ _ _ _ _ r h => by simp [racewaylaw6_ResidualSteps.j2] at h⟩
 | k + 1 => by
  obtain ⟨ih0, ih1, ih2, ih3, ih4, ih5⟩ := racewaylaw6_ResidualSteps.mono_l k
  refine ⟨?_, ?_, ?_, ?_, ?_, ?_⟩
  ·intro y0 y1 y2 y3 y4 y5 y6 y7
   unfold racewaylaw6_ResidualSteps.j0
   repeat' first
   | (with_reducible exact ih0 _ _ _ _ _ _ _ _)
   | (with_reducible exact ih1 _ _ _ _ _ _ _)
   | (with_reducible exact ih2 _ _ _ _ _ _ _ _ _ _ _)
   | (with_reducible exact ih3 _ _ _ _ _ _ _ _ _ _ _ _)
   | (with_reducible exact ih4 _ _ _ _ _ _ _ _ _ _ _)
   | (with_reducible exact ih5 _ _ _ _ _ _ _ _ _ _ _ _)
   | (with_reducible exact racewaylaw6_made.mono _ _ _ _)
   | (with_reducible exact racewaylaw6_routed.mono _ _ _ _ _ _)
   | (with_reducible exact racewaylaw6_shown.mono _)
   | (with_reducible exact racewayref5_Same.mono _ _ _)
   | (with_reducible exact residual_Ends.mono _ _ _ _ _ _)
   | (with_reducible exact residual_From.mono _ _ _ _ _ _)
   | (with_reducible exact residual_Push.mono _ _ _ _ _ _ _ _)
   | (with_reducible exact LeO.refl _)
   | (with_reducible exact LeO.none _)
   | (with_reducible refine LeO.ite ?_ ?_)
   | (with_reducible refine LeO.bind ?_ (fun _ => ?_))
   | exact ih0 _ _ _ _ _ _ _ _
   | exact ih1 _ _ _ _ _ _ _
   | exact ih2 _ _ _ _ _ _ _ _ _ _ _
   | exact ih3 _ _ _ _ _ _ _ _ _ _ _ _
   | exact ih4 _ _ _ _ _ _ _ _ _ _ _
   | exact ih5 _ _ _ _ _ _ _ _ _ _ _ _
   | exact racewaylaw6_made.mono _ _ _ _
   | exact racewaylaw6_routed.mono _ _ _ _ _ _
   | exact racewaylaw6_shown.mono _
   | exact racewayref5_Same.mono _ _ _
   | exact residual_Ends.mono _ _ _ _ _ _
   | exact residual_From.mono _ _ _ _ _ _
   | exact residual_Push.mono _ _ _ _ _ _ _ _
   | exact LeO.none _
   | refine LeO.ite ?_ ?_
   | refine LeO.bind ?_ (fun _ => ?_)
  ·intro y0 y1 y2 y3 y4 y5 y6
   unfold racewaylaw6_ResidualSteps.j3
   repeat' first
   | (with_reducible exact ih0 _ _ _ _ _ _ _ _)
   | (with_reducible exact ih1 _ _ _ _ _ _ _)
   | (with_reducible exact ih2 _ _ _ _ _ _ _ _ _ _ _)
   | (with_reducible exact ih3 _ _ _ _ _ _ _ _ _ _ _ _)
   | (with_reducible exact ih4 _ _ _ _ _ _ _ _ _ _ _)
   | (with_reducible exact ih5 _ _ _ _ _ _ _ _ _ _ _ _)
   | (with_reducible exact racewaylaw6_made.mono _ _ _ _)
   | (with_reducible exact racewaylaw6_routed.mono _ _ _ _ _ _)
   | (with_reducible exact racewaylaw6_shown.mono _)
   | (with_reducible exact racewayref5_Same.mono _ _ _)
   | (with_reducible exact residual_Ends.mono _ _ _ _ _ _)
   | (with_reducible exact residual_From.mono _ _ _ _ _ _)
   | (with_reducible exact residual_Push.mono _ _ _ _ _ _ _ _)
   | (with_reducible exact LeO.refl _)
   | (with_reducible exact LeO.none _)
   | (with_reducible refine LeO.ite ?_ ?_)
   | (with_reducible refine LeO.bind ?_ (fun _ => ?_))
   | exact ih0 _ _ _ _ _ _ _ _
   | exact ih1 _ _ _ _ _ _ _
   | exact ih2 _ _ _ _ _ _ _ _ _ _ _
   | exact ih3 _ _ _ _ _ _ _ _ _ _ _ _
   | exact ih4 _ _ _ _ _ _ _ _ _ _ _
   | exact ih5 _ _ _ _ _ _ _ _ _ _ _ _
   | exact racewaylaw6_made.mono _ _ _ _
   | exact racewaylaw6_routed.mono _ _ _ _ _ _
   | exact racewaylaw6_shown.mono _
   | exact racewayref5_Same.mono _ _ _
   | exact residual_Ends.mono _ _ _ _ _ _
   | exact residual_From.mono _ _ _ _ _ _
   | exact residual_Push.mono _ _ _ _ _ _ _ _
   | exact LeO.none _
   | refine LeO.ite ?_ ?_
   | refine LeO.bind ?_ (fun _ => ?_)
  ·intro y0 y1 y2 y3 y4 y5 y6 y7 y8 y9 y10
   unfold racewaylaw6_ResidualSteps.l1
   repeat' first
   | (with_reducible exact ih0 _ _ _ _ _ _ _ _)
   | (with_reducible exact ih1 _ _ _ _ _ _ _)
   | (with_reducible exact ih2 _ _ _ _ _ _ _ _ _ _ _)
   | (with_reducible exact ih3 _ _ _ _ _ _ _ _ _ _ _ _)
   | (with_reducible exact ih4 _ _ _ _ _ _ _ _ _ _ _)
   | (with_reducible exact ih5 _ _ _ _ _ _ _ _ _ _ _ _)
   | (with_reducible exact racewaylaw6_made.mono _ _ _ _)
   | (with_reducible exact racewaylaw6_routed.mono _ _ _ _ _ _)
   | (with_reducible exact racewaylaw6_shown.mono _)
   | (with_reducible exact racewayref5_Same.mono _ _ _)
   | (with_reducible exact residual_Ends.mono _ _ _ _ _ _)
   | (with_reducible exact residual_From.mono _ _ _ _ _ _)
   | (with_reducible exact residual_Push.mono _ _ _ _ _ _ _ _)
   | (with_reducible exact LeO.refl _)
   | (with_reducible exact LeO.none _)
   | (with_reducible refine LeO.ite ?_ ?_)
   | (with_reducible refine LeO.bind ?_ (fun _ => ?_))
   | exact ih0 _ _ _ _ _ _ _ _
   | exact ih1 _ _ _ _ _ _ _
   | exact ih2 _ _ _ _ _ _ _ _ _ _ _
   | exact ih3 _ _ _ _ _ _ _ _ _ _ _ _
   | exact ih4 _ _ _ _ _ _ _ _ _ _ _
   | exact ih5 _ _ _ _ _ _ _ _ _ _ _ _
   | exact racewaylaw6_made.mono _ _ _ _
   | exact racewaylaw6_routed.mono _ _ _ _ _ _
   | exact racewaylaw6_shown.mono _
   | exact racewayref5_Same.mono _ _ _
   | exact residual_Ends.mono _ _ _ _ _ _
   | exact residual_From.mono _ _ _ _ _ _
   | exact residual_Push.mono _ _ _ _ _ _ _ _
   | exact LeO.none _
   | refine LeO.ite ?_ ?_
   | refine LeO.bind ?_ (fun _ => ?_)
  ·intro y0 y1 y2 y3 y4 y5 y6 y7 y8 y9 y10 y11
   unfold racewaylaw6_ResidualSteps.j5
   repeat' first
   | (with_reducible exact ih0 _ _ _ _ _ _ _ _)
   | (with_reducible exact ih1 _ _ _ _ _ _ _)
   | (with_reducible exact ih2 _ _ _ _ _ _ _ _ _ _ _)
   | (with_reducible exact ih3 _ _ _ _ _ _ _ _ _ _ _ _)
   | (with_reducible exact ih4 _ _ _ _ _ _ _ _ _ _ _)
   | (with_reducible exact ih5 _ _ _ _ _ _ _ _ _ _ _ _)
   | (with_reducible exact racewaylaw6_made.mono _ _ _ _)
   | (with_reducible exact racewaylaw6_routed.mono _ _ _ _ _ _)
   | (with_reducible exact racewaylaw6_shown.mono _)
   | (with_reducible exact racewayref5_Same.mono _ _ _)
   | (with_reducible exact residual_Ends.mono _ _ _ _ _ _)
   | (with_reducible exact residual_From.mono _ _ _ _ _ _)
   | (with_reducible exact residual_Push.mono _ _ _ _ _ _ _ _)
   | (with_reducible exact LeO.refl _)
   | (with_reducible exact LeO.none _)
   | (with_reducible refine LeO.ite ?_ ?_)
   | (with_reducible refine LeO.bind ?_ (fun _ => ?_))
   | exact ih0 _ _ _ _ _ _ _ _
   | exact ih1 _ _ _ _ _ _ _
   | exact ih2 _ _ _ _ _ _ _ _ _ _ _
   | exact ih3 _ _ _ _ _ _ _ _ _ _ _ _
   | exact ih4 _ _ _ _ _ _ _ _ _ _ _
   | exact ih5 _ _ _ _ _ _ _ _ _ _ _ _
   | exact racewaylaw6_made.mono _ _ _ _
   | exact racewaylaw6_routed.mono _ _ _ _ _ _
   | exact racewaylaw6_shown.mono _
   | exact racewayref5_Same.mono _ _ _
   | exact residual_Ends.mono _ _ _ _ _ _
   | exact residual_From.mono _ _ _ _ _ _
   | exact residual_Push.mono _ _ _ _ _ _ _ _
   | exact LeO.none _
   | refine LeO.ite ?_ ?_
   | refine LeO.bind ?_ (fun _ => ?_)
  ·intro y0 y1 y2 y3 y4 y5 y6 y7 y8 y9 y10
   unfold racewaylaw6_ResidualSteps.l0
   repeat' first
   | (with_reducible exact ih0 _ _ _ _ _ _ _ _)
   | (with_reducible exact ih1 _ _ _ _ _ _ _)
   | (with_reducible exact ih2 _ _ _ _ _ _ _ _ _ _ _)
   | (with_reducible exact ih3 _ _ _ _ _ _ _ _ _ _ _ _)
   | (with_reducible exact ih4 _ _ _ _ _ _ _ _ _ _ _)
   | (with_reducible exact ih5 _ _ _ _ _ _ _ _ _ _ _ _)
   | (with_reducible exact racewaylaw6_made.mono _ _ _ _)
   | (with_reducible exact racewaylaw6_routed.mono _ _ _ _ _ _)
   | (with_reducible exact racewaylaw6_shown.mono _)
   | (with_reducible exact racewayref5_Same.mono _ _ _)
   | (with_reducible exact residual_Ends.mono _ _ _ _ _ _)
   | (with_reducible exact residual_From.mono _ _ _ _ _ _)
   | (with_reducible exact residual_Push.mono _ _ _ _ _ _ _ _)
   | (with_reducible exact LeO.refl _)
   | (with_reducible exact LeO.none _)
   | (with_reducible refine LeO.ite ?_ ?_)
   | (with_reducible refine LeO.bind ?_ (fun _ => ?_))
   | exact ih0 _ _ _ _ _ _ _ _
   | exact ih1 _ _ _ _ _ _ _
   | exact ih2 _ _ _ _ _ _ _ _ _ _ _
   | exact ih3 _ _ _ _ _ _ _ _ _ _ _ _
   | exact ih4 _ _ _ _ _ _ _ _ _ _ _
   | exact ih5 _ _ _ _ _ _ _ _ _ _ _ _
   | exact racewaylaw6_made.mono _ _ _ _
   | exact racewaylaw6_routed.mono _ _ _ _ _ _
   | exact racewaylaw6_shown.mono _
   | exact racewayref5_Same.mono _ _ _
   | exact residual_Ends.mono _ _ _ _ _ _
   | exact residual_From.mono _ _ _ _ _ _
   | exact residual_Push.mono _ _ _ _ _ _ _ _
   | exact LeO.none _
   | refine LeO.ite ?_ ?_
   | refine LeO.bind ?_ (fun _ => ?_)
  ·intro y0 y1 y2 y3 y4 y5 y6 y7 y8 y9 y10 y11
   unfold racewaylaw6_ResidualSteps.j2
   repeat' first
   | (with_reducible exact ih0 _ _ _ _ _ _ _ _)
   | (with_reducible exact ih1 _ _ _ _ _ _ _)
   | (with_reducible exact ih2 _ _ _ _ _ _ _ _ _ _ _)
   | (with_reducible exact ih3 _ _ _ _ _ _ _ _ _ _ _ _)
   | (with_reducible exact ih4 _ _ _ _ _ _ _ _ _ _ _)
   | (with_reducible exact ih5 _ _ _ _ _ _ _ _ _ _ _ _)
   | (with_reducible exact racewaylaw6_made.mono _ _ _ _)
   | (with_reducible exact racewaylaw6_routed.mono _ _ _ _ _ _)
   | (with_reducible exact racewaylaw6_shown.mono _)
   | (with_reducible exact racewayref5_Same.mono _ _ _)
   | (with_reducible exact residual_Ends.mono _ _ _ _ _ _)
   | (with_reducible exact residual_From.mono _ _ _ _ _ _)
   | (with_reducible exact residual_Push.mono _ _ _ _ _ _ _ _)
   | (with_reducible exact LeO.refl _)
   | (with_reducible exact LeO.none _)
   | (with_reducible refine LeO.ite ?_ ?_)
   | (with_reducible refine LeO.bind ?_ (fun _ => ?_))
   | exact ih0 _ _ _ _ _ _ _ _
   | exact ih1 _ _ _ _ _ _ _
   | exact ih2 _ _ _ _ _ _ _ _ _ _ _
   | exact ih3 _ _ _ _ _ _ _ _ _ _ _ _
   | exact ih4 _ _ _ _ _ _ _ _ _ _ _
   | exact ih5 _ _ _ _ _ _ _ _ _ _ _ _
   | exact racewaylaw6_made.mono _ _ _ _
   | exact racewaylaw6_routed.mono _ _ _ _ _ _
   | exact racewaylaw6_shown.mono _
   | exact racewayref5_Same.mono _ _ _
   | exact residual_Ends.mono _ _ _ _ _ _
   | exact residual_From.mono _ _ _ _ _ _
   | exact residual_Push.mono _ _ _ _ _ _ _ _
   | exact LeO.none _
   | refine LeO.ite ?_ ?_
   | refine LeO.bind ?_ (fun _ => ?_)
theorem racewaylaw6_ResidualSteps.mono : ∀ a0 a1 a2 a3 a4 a5 k, LeO (racewaylaw6_ResidualSteps.f k a0 a1 a2 a3 a4 a5) (racewaylaw6_ResidualSteps.f (k + 1) a0 a1 a2 a3 a4 a5) := by
 intro a0 a1 a2 a3 a4 a5 k
 obtain ⟨ih0, ih1, ih2, ih3, ih4, ih5⟩ := racewaylaw6_ResidualSteps.mono_l k
 unfold racewaylaw6_ResidualSteps.f
 repeat' first
   | (with_reducible exact ih0 _ _ _ _ _ _ _ _)
   | (with_reducible exact ih1 _ _ _ _ _ _ _)
   | (with_reducible exact ih2 _ _ _ _ _ _ _ _ _ _ _)
   | (with_reducible exact ih3 _ _ _ _ _ _ _ _ _ _ _ _)
   | (with_reducible exact ih4 _ _ _ _ _ _ _ _ _ _ _)
   | (with_reducible exact ih5 _ _ _ _ _ _ _ _ _ _ _ _)
   | (with_reducible exact racewaylaw6_made.mono _ _ _ _)
   | (with_reducible exact racewaylaw6_routed.mono _ _ _ _ _ _)
   | (with_reducible exact racewaylaw6_shown.mono _)
   | (with_reducible exact racewayref5_Same.mono _ _ _)
   | (with_reducible exact residual_Ends.mono _ _ _ _ _ _)
   | (with_reducible exact residual_From.mono _ _ _ _ _ _)
   | (with_reducible exact residual_Push.mono _ _ _ _ _ _ _ _)
   | (with_reducible exact LeO.refl _)
   | (with_reducible exact LeO.none _)
   | (with_reducible refine LeO.ite ?_ ?_)
   | (with_reducible refine LeO.bind ?_ (fun _ => ?_))
   | exact ih0 _ _ _ _ _ _ _ _
   | exact ih1 _ _ _ _ _ _ _
   | exact ih2 _ _ _ _ _ _ _ _ _ _ _
   | exact ih3 _ _ _ _ _ _ _ _ _ _ _ _
   | exact ih4 _ _ _ _ _ _ _ _ _ _ _
   | exact ih5 _ _ _ _ _ _ _ _ _ _ _ _
   | exact racewaylaw6_made.mono _ _ _ _
   | exact racewaylaw6_routed.mono _ _ _ _ _ _
   | exact racewaylaw6_shown.mono _
   | exact racewayref5_Same.mono _ _ _
   | exact residual_Ends.mono _ _ _ _ _ _
   | exact residual_From.mono _ _ _ _ _ _
   | exact residual_Push.mono _ _ _ _ _ _ _ _
   | exact LeO.none _
   | refine LeO.ite ?_ ?_
   | refine LeO.bind ?_ (fun _ => ?_)
set_option maxHeartbeats 8000000 in
set_option maxRecDepth 100000 in
theorem racewaylaw6_ResidualSteps.calls (k : Nat) (a0 : Int) (a1 : Int) (A2 : Option Addr) (c2 : Nat) (l2 : List (S68)) (A3 : Option Addr) (c3 : Nat) (l3 : List Int) (A4 : Option Addr) (c4 : Nat) (l4 : List Int) (a5 : Int) (r : Bool) (w : World) (hr2 : Kd.C k68 w A2 l2.length l2) (hc2 : l2.length ≤ c2) (hr3 : Kd.C (Kd.int .i64) w A3 l3.length l3) (hc3 : l3.length ≤ c3) (hr4 : Kd.C (Kd.int .i64) w A4 l4.length l4) (hc4 : l4.length ≤ c4) (h : racewaylaw6_ResidualSteps.f k a0 a1 l2 l3 l4 a5 = some r) (hrT_ : Aside0 (r = true)) :
  Calls Try.prog 7 #[.int .i64 a0, .int .i64 a1, .slice A2 l2.length c2, .slice A3 l3.length c3, .slice A4 l4.length c4, .int .i64 a5] w fun e w' => e = .returned (.bool r) ∧ Below w.heap.size w w' := by
 have hu27 := Try.underlying27
 have HR2 := Aside0.mk hr2
 have HC2 := Aside0.mk hc2
 clear hr2 hc2
 have HR3 := Aside0.mk hr3
 have HC3 := Aside0.mk hc3
 clear hr3 hc3
 have HR4 := Aside0.mk hr4
 have HC4 := Aside0.mk hc4
 clear hr4 hc4
 have HB := Aside0.mk (Below.refl w.heap.size w)
 have H : ((racewaylaw6_shown.f k).bind fun t234 => (if t234 = true then (racewaylaw6_ResidualSteps.j0 k a0 a1 l2 l3 l4 a5 t234 (decide ((l4.length : Int) > 60))) else (racewaylaw6_ResidualSteps.j0 k a0 a1 l2 l3 l4 a5 t234 true))) = some r := h
 clear h
 replace H := Option.bind_eq_some_iff.mp H
 obtain ⟨t234, A70, H⟩ := H
 replace H : (if t234 = true then (racewaylaw6_ResidualSteps.j0 k a0 a1 l2 l3 l4 a5 t234 (decide ((l4.length : Int) > 60))) else (racewaylaw6_ResidualSteps.j0 k a0 a1 l2 l3 l4 a5 t234 true)) = some r := H
 have A7 := Aside0.mk A70
 clear A70
 have HC8 := Aside0.mk H
 clear H
 go_enter Try.func7, Try.ntmps7
 go_upto_region 2 with (first | ((with_reducible refine gate_callee (f := 14) rfl ?_); refine goesL_ (some 32) rfl rfl Try.func14 (by kernel_rfl) rfl #[] rfl (by (try simp only [List.map_toArray, List.map_cons, List.map_nil]); first | done | rfl | (simp only [List.length_drop, List.length_take]; rfl)) ?_; (with_reducible refine (racewaylaw6_shown.calls k  t234 _ A7.out).mono ?_); rintro e w9 ⟨rfl, hb⟩; refine ⟨_, rfl, ?_⟩; have n0_ := Aside0.mk (below_step (by repeat (first | (with_reducible first | exact HB.out | apply below_alloc | apply pw_below_drewN | apply below_drew1) | exact HB.out)) hb); clear HB; have HB := n0_; clear n0_; (try clear hb); (try clear hb2); (try clear hk); (try clear hi)))
 (try simp only [Act.put, List.setIfInBounds_toArray, List.set_cons_zero, List.set_cons_succ])
 go_cut [39] (fun v39 wc => ∃ (kq : Nat) (x39_7 : Bool), v39 = .bool x39_7 ∧ Aside0 (racewaylaw6_ResidualSteps.j0 kq a0 a1 l2 l3 l4 a5 t234 x39_7 = some r) ∧ Aside0 (kq ≤ k) ∧ Aside0 (Below w.heap.size w wc))
 case first =>
  have H := HC8.out
  clear HC8
  by_cases c10 : t234 = true
  ·subst c10
   have H1 : (racewaylaw6_ResidualSteps.j0 k a0 a1 l2 l3 l4 a5 true (decide ((l4.length : Int) > 60))) = some r := by rw [if_pos rfl] at H; exact H
   clear H
   have H := H1
   clear H1
   have H' := Aside0.mk H
   clear H
   go_wp2
   go_meet
   case rel => exact ⟨_, (decide ((l4.length : Int) > 60)), (by first | rfl | (simp; done) | (simp [*]; done)), H', ⟨by first | omega | exact Nat.le_refl _⟩, ⟨by repeat (first | (with_reducible first | exact HB.out | apply below_alloc | apply pw_below_drewN | apply below_drew1) | exact HB.out)⟩⟩
  ·replace c10 := Bool.eq_false_iff.mpr c10
   subst c10
   have H1 : (racewaylaw6_ResidualSteps.j0 k a0 a1 l2 l3 l4 a5 false true) = some r := by rw [if_neg (show ¬ (false = true) by decide)] at H; exact H
   clear H
   have H := H1
   clear H1
   have H' := Aside0.mk H
   clear H
   go_wp2
   go_meet
   case rel => exact ⟨_, (true), (by first | rfl | (simp; done) | (simp [*]; done)), H', ⟨by first | omega | exact Nat.le_refl _⟩, ⟨by repeat (first | (with_reducible first | exact HB.out | apply below_alloc | apply pw_below_drewN | apply below_drew1) | exact HB.out)⟩⟩
 case rest =>
  clear HC8
  try clear c1
  try clear c2
  try clear p2
  try clear c3
  try clear c4
  try clear c7
  try clear c10
  obtain ⟨kq, x39_7, rfl, HA, HJ7, HB⟩ := hcut
  cases kq with
  | zero => exact absurd HA.out (by simp [racewaylaw6_ResidualSteps.j0])
  | succ kj7 =>
   have H := HA.out
   clear HA
   simp only [racewaylaw6_ResidualSteps.j0] at H
   by_cases c11 : x39_7 = true
   ·subst c11
    have H1 : (some t234) = some r := by rw [if_pos rfl] at H; exact H
    clear H
    have H := H1
    clear H1
    obtain rfl := Option.some.inj H
    go_wp2
    go_ret
    exact ⟨by first | rfl | (simp [errW_none, errW_some] <;> rfl) | (simp [*, errW_none, errW_some] <;> rfl), by repeat (first | (with_reducible first | exact HB.out | apply below_alloc | apply pw_below_drewN | apply below_drew1) | exact HB.out)⟩
   ·replace c11 := Bool.eq_false_iff.mpr c11
    subst c11
    have H1 : ((racewaylaw6_made.f kj7 a0 a1 l2).bind fun bt235 => ((racewaylaw6_routed.f kj7 bt235.1 bt235.2.1 bt235.2.2.1 bt235.2.2.2 l3).bind fun t242 => (if 0 ≤ (wrap64 (bt235.1 + 1)) then (if (wrap64 (bt235.1 + 1) : Int).toNat ≤ 281474976710656 then (racewaylaw6_ResidualSteps.l0 kj7 l4 a5 t242 (List.replicate (wrap64 (bt235.1 + 1) : Int).toNat false) bt235.2.1 ([] : List Int) 0 bt235.1 bt235.2.1 bt235.2.2.1 bt235.2.2.2) else (none)) else (none)))) = some r := by rw [if_neg (show ¬ (false = true) by decide)] at H; exact H
    clear H
    have H := H1
    clear H1
    replace H := Option.bind_eq_some_iff.mp H
    obtain ⟨⟨t235, t236, t237, t238⟩, A120, H⟩ := H
    replace H : ((racewaylaw6_routed.f kj7 t235 t236 t237 t238 l3).bind fun t242 => (if 0 ≤ (wrap64 (t235 + 1)) then (if (wrap64 (t235 + 1) : Int).toNat ≤ 281474976710656 then (racewaylaw6_ResidualSteps.l0 kj7 l4 a5 t242 (List.replicate (wrap64 (t235 + 1) : Int).toNat false) t236 ([] : List Int) 0 t235 t236 t237 t238) else (none)) else (none))) = some r := H
    have A12 := Aside0.mk A120
    clear A120
    replace H := Option.bind_eq_some_iff.mp H
    obtain ⟨t242, A130, H⟩ := H
    replace H : (if 0 ≤ (wrap64 (t235 + 1)) then (if (wrap64 (t235 + 1) : Int).toNat ≤ 281474976710656 then (racewaylaw6_ResidualSteps.l0 kj7 l4 a5 t242 (List.replicate (wrap64 (t235 + 1) : Int).toNat false) t236 ([] : List Int) 0 t235 t236 t237 t238) else (none)) else (none)) = some r := H
    have A13 := Aside0.mk A130
    clear A130
    obtain ⟨ji14, hji14⟩ : ∃ j_ : Int, (wrap64 (t235 + 1)) = j_ := ⟨_, rfl⟩
    replace H : (if 0 ≤ (ji14) then (if (ji14 : Int).toNat ≤ 281474976710656 then (racewaylaw6_ResidualSteps.l0 kj7 l4 a5 t242 (List.replicate (ji14 : Int).toNat false) t236 ([] : List Int) 0 t235 t236 t237 t238) else (none)) else (none)) = some r := by first | (rw [hji14] at H; exact H) | (simp only [hji14] at H ⊢; exact H)
    (try rw [hji14] at A12)
    (try rw [hji14] at A13)
    have hji14w : (IntKind.i64.wrap (t235 + 1)) = ji14 := (i64_w _).trans hji14
    by_cases c15 : 0 ≤ (ji14)
    ·rw [if_pos c15] at H
     have c15b0 := eq_true c15
     have c15b1 : decide (0 ≤ (ji14)) = true := decide_eq_true c15
     clear c15
     by_cases c16 : (ji14 : Int).toNat ≤ 281474976710656
     ·rw [if_pos c16] at H
      have c16b0 := eq_true c16
      have c16b1 : decide ((ji14 : Int).toNat ≤ 281474976710656) = true := decide_eq_true c16
      clear c16
      obtain ⟨y245, hy245⟩ : ∃ y_ : List Bool, y_ = (List.replicate (ji14 : Int).toNat false) := ⟨_, rfl⟩
      replace H : (racewaylaw6_ResidualSteps.l0 kj7 l4 a5 t242 y245 t236 ([] : List Int) 0 t235 t236 t237 t238) = some r := by first | (rw [hy245]; with_reducible exact H) | (have H2_ := (Option.bind_some _ _).symm.trans H; rw [hy245]; with_reducible exact H2_) | (have H2_ := (Option.bind_some _ _).symm.trans H; with_reducible exact H2_) | with_reducible exact H | (rw [hy245]; exact H) | exact H
      have Ny245 := Aside0.mk hy245
      clear hy245
      have HC17 := Aside0.mk H
      clear H
      go_upto_block 0 with (first | ((with_reducible refine gate_callee (f := 15) rfl ?_); refine goesL_ (some 44) rfl rfl Try.func15 (by kernel_rfl) rfl #[.int .i64 a0, .int .i64 a1, .slice A2 l2.length c2] rfl (by (try simp only [List.map_toArray, List.map_cons, List.map_nil]); first | done | rfl | (simp only [List.length_drop, List.length_take]; rfl)) ?_; (with_reducible refine (racewaylaw6_made.calls kj7 a0 a1 _ _ l2 t235 t236 t237 t238 _ ?side1 ?side2 A12.out).mono ?_); (case side1 => repeat (first | exact (Kd.C_below HR2.out HB.out) | (with_reducible refine Kd.C_alloc ?_ _) | (with_reducible refine Kd.C_drewN ?_ _) | (with_reducible refine Kd.C_drew ?_))); (case side2 => exact HC2.out); rintro e w18 ⟨v239, rfl, ho0, hb⟩; refine ⟨_, rfl, ?_⟩; have n0_ := Aside0.mk (Kd.R_lower ho0 (below_size (by repeat (first | (with_reducible first | exact HB.out | apply below_alloc | apply pw_below_drewN | apply below_drew1) | exact HB.out)))); have n1_ := Aside0.mk (below_step (by repeat (first | (with_reducible first | exact HB.out | apply below_alloc | apply pw_below_drewN | apply below_drew1) | exact HB.out)) hb); clear HB; have HO240 := n0_; have HB := n1_; clear n0_ n1_; (try clear hb); (try clear hb2); (try clear hk); (try clear hi); (try clear ho0)) | ((with_reducible refine gate_dst (N := 14) rfl ?_); (try (refine gate_guard (by rfl) ?_; dsimp only)); refine box_event ?hg (N := 14) ?hd (cs := #[.int .i64 0, .int .i64 0, .int .i64 0, .slice none 0 0]) (t := 27) ?hr ?_; (case hd => rfl); (case hg => rfl); (case hr => first | (go_simp; done) | (go_simp; rfl)); intro gb241 hg w19 hbox hb; have n0_ := Aside0.mk (Kd.R_below (by (with_reducible repeat (first | apply Kd.R_alloc | apply Kd.R_drewN | apply Kd.R_drew)); exact HO240.out) hb); have n1_ := Aside0.mk (below_step (by repeat (first | (with_reducible first | exact HB.out | apply below_alloc | apply pw_below_drewN | apply below_drew1) | exact HB.out)) hb); have n2_ := Aside0.mk (hbox); have n3_ := Aside0.mk ((by rw [hg]; exact (below_size (by repeat (first | (with_reducible first | exact HB.out | apply below_alloc | apply pw_below_drewN | apply below_drew1) | exact HB.out))) : w.heap.size ≤ gb241)); have n4_ := Aside0.mk ((by rw [hg]; exact (below_size (by repeat (first | (with_reducible first | exact HB.out | apply below_alloc | apply pw_below_drewN | apply below_drew1) | exact HB.out))) : w.heap.size ≤ gb241)); clear HO240; clear HB; have HO240 := n0_; have HB := n1_; have BK241 := n2_; have GW241 := n3_; have GE241 := n4_; clear n0_ n1_ n2_ n3_ n4_; clear hb hbox hg; have hcz20_0 : w19.cell? ⟨gb241, 0, none⟩ = some (.int .i64 0) := (blk_cell BK241.out 0).trans rfl; have hcz20_1 : w19.cell? ⟨gb241, 1, none⟩ = some (.int .i64 0) := (blk_cell BK241.out 1).trans rfl; have hcz20_2 : w19.cell? ⟨gb241, 2, none⟩ = some (.int .i64 0) := (blk_cell BK241.out 2).trans rfl; have hcz20_3 : w19.cell? ⟨gb241, 3, none⟩ = some (.slice none 0 0) := (blk_cell BK241.out 3).trans rfl; have hfz20_0 := blk_frozen BK241.out 0; have hfz20_1 := blk_frozen BK241.out 1; have hfz20_2 := blk_frozen BK241.out 2; have hfz20_3 := blk_frozen BK241.out 3; obtain ⟨Ao21, co21, eo21⟩ := Kd.R_slice HO240.out; subst eo21) | ((with_reducible refine gate_callee (f := 16) rfl ?_); refine goesL_ (some 47) rfl rfl Try.func16 (by kernel_rfl) rfl #[.agg #[.int .i64 t235, .int .i64 t236, .int .i64 t237, .slice Ao21 t238.length co21], .slice A3 l3.length c3] rfl (by (try simp only [List.map_toArray, List.map_cons, List.map_nil]); first | done | rfl | (simp only [List.length_drop, List.length_take]; rfl)) ?_; (with_reducible refine (racewaylaw6_routed.calls kj7 t235 t236 t237 _ _ t238 _ _ l3 t242 _ ?side1 ?side2 ?side3 ?side4 A13.out).mono ?_); (case side1 => refine (Kd.R_reads' (e := 49) (base := w.heap.size) (ok := fun k_ => True) (n := t238.length) (c := co21) ?_).2.2; exact (by (with_reducible repeat (first | apply Kd.R_alloc | apply Kd.R_drewN | apply Kd.R_drew)); exact (Kd.R_mono (Kd.R_far (p := ⟨gb241, 3, none⟩) (Kd.R_far (p := ⟨gb241, 2, none⟩) (Kd.R_far (p := ⟨gb241, 1, none⟩) (Kd.R_far (p := ⟨gb241, 0, none⟩) (Kd.R_types HO240.out BK241.out (by decide)) (fun _ hk => hk.2) (.int .i64 t235)) (fun _ hk => hk.2) (.int .i64 t236)) (fun _ hk => hk.2) (.int .i64 t237)) (fun _ hk => hk.2) (.slice Ao21 t238.length co21)) (fun _ h_ => h_.1)))); (case side2 => exact (Kd.R_reads' HO240.out).2.1); (case side3 => exact Kd.C_below HR3.out (by repeat (first | (with_reducible first | exact HB.out | apply below_alloc | apply pw_below_drewN | apply below_drew1 | refine below_set ?_ GE241.out) | exact HB.out))); (case side4 => exact HC3.out); rintro e w22 ⟨v243, rfl, ho0, hb⟩; refine ⟨_, rfl, ?_⟩; have n0_ := Aside0.mk (Kd.R_below (by (with_reducible repeat (first | apply Kd.R_alloc | apply Kd.R_drewN | apply Kd.R_drew)); exact (Kd.R_mono (Kd.R_far (p := ⟨gb241, 3, none⟩) (Kd.R_far (p := ⟨gb241, 2, none⟩) (Kd.R_far (p := ⟨gb241, 1, none⟩) (Kd.R_far (p := ⟨gb241, 0, none⟩) (Kd.R_types HO240.out BK241.out (by decide)) (fun _ hk => hk.2) (.int .i64 t235)) (fun _ hk => hk.2) (.int .i64 t236)) (fun _ hk => hk.2) (.int .i64 t237)) (fun _ hk => hk.2) (.slice Ao21 t238.length co21)) (fun _ h_ => h_.1))) hb); have n1_ := Aside0.mk (Kd.R_lower ho0 (below_size (by repeat (first | (with_reducible first | exact HB.out | apply below_alloc | apply pw_below_drewN | apply below_drew1 | refine below_set ?_ GE241.out) | exact HB.out)))); have n2_ := Aside0.mk (blk_below (g := gb241) (o := .cells #[.int .i64 t235, .int .i64 t236, .int .i64 t237, .slice Ao21 t238.length co21] 27 (0, 0)) (by (with_reducible repeat (first | refine blk_drewN ?_ _ | refine blk_drew ?_ | refine blk_alloc ?_ _)); refine blk_put (cs := #[.int .i64 t235, .int .i64 t236, .int .i64 t237, .slice none 0 0]) ?_ 3 _ rfl; (with_reducible repeat (first | refine blk_drewN ?_ _ | refine blk_drew ?_ | refine blk_alloc ?_ _)); refine blk_put (cs := #[.int .i64 t235, .int .i64 t236, .int .i64 0, .slice none 0 0]) ?_ 2 _ rfl; (with_reducible repeat (first | refine blk_drewN ?_ _ | refine blk_drew ?_ | refine blk_alloc ?_ _)); refine blk_put (cs := #[.int .i64 t235, .int .i64 0, .int .i64 0, .slice none 0 0]) ?_ 1 _ rfl; (with_reducible repeat (first | refine blk_drewN ?_ _ | refine blk_drew ?_ | refine blk_alloc ?_ _)); refine blk_put (cs := #[.int .i64 0, .int .i64 0, .int .i64 0, .slice none 0 0]) ?_ 0 _ rfl; (with_reducible repeat (first | refine blk_drewN ?_ _ | refine blk_drew ?_ | refine blk_alloc ?_ _)); exact BK241.out) hb); have n3_ := Aside0.mk (below_step (by repeat (first | (with_reducible first | exact HB.out | apply below_alloc | apply pw_below_drewN | apply below_drew1 | refine below_set ?_ GE241.out) | exact HB.out)) hb); clear HO240; clear BK241; clear HB; have HO240 := n0_; have HO244 := n1_; have BK241 := n2_; have HB := n3_; clear n0_ n1_ n2_ n3_; (try clear hb); (try clear hb2); (try clear hk); (try clear hi); (try clear ho0); have hcz23_0 : w22.cell? ⟨gb241, 0, none⟩ = some (.int .i64 t235) := (blk_cell BK241.out 0).trans rfl; have hcz23_1 : w22.cell? ⟨gb241, 1, none⟩ = some (.int .i64 t236) := (blk_cell BK241.out 1).trans rfl; have hcz23_2 : w22.cell? ⟨gb241, 2, none⟩ = some (.int .i64 t237) := (blk_cell BK241.out 2).trans rfl; have hcz23_3 : w22.cell? ⟨gb241, 3, none⟩ = some (.slice Ao21 t238.length co21) := (blk_cell BK241.out 3).trans rfl; have hfz23_0 := blk_frozen BK241.out 0; have hfz23_1 := blk_frozen BK241.out 1; have hfz23_2 := blk_frozen BK241.out 2; have hfz23_3 := blk_frozen BK241.out 3) | ((with_reducible refine gate_dst (N := 51) rfl ?_); (try (refine gate_guard (by rfl) ?_; dsimp only)); refine Kd.R_make Kd.bool _ 4 rfl (N := 51) rfl 35 _ _ rfl ji14 rfl rfl Try.underlying35 (.bool false) 1 info4 rfl (by decide) (by omega) false (ok := fun _ => True) (okp := fun _ => True) rfl (fun _ hk => hk) trivial (of_decide_eq_true (by first | (with_reducible assumption) | assumption)) (Nat.le_trans (Nat.mul_le_mul_right _ (of_decide_eq_true (by first | (with_reducible assumption) | assumption) : ji14.toNat ≤ 281474976710656)) (by omega)) (Below.refl _ _) (Nat.le_refl _) ?_; intro v246 w24 ho25 hb hg_ hnew_; clear hg_ hnew_; (first | rw [← Ny245.out] at ho25 | (simp only [Int.reduceToNat] at ho25; rw [← Ny245.out] at ho25)); have n0_ := Aside0.mk (Kd.R_below (by (with_reducible repeat (first | apply Kd.R_alloc | apply Kd.R_drewN | apply Kd.R_drew)); exact HO240.out) hb); have n1_ := Aside0.mk (Kd.R_below (by (with_reducible repeat (first | apply Kd.R_alloc | apply Kd.R_drewN | apply Kd.R_drew)); exact HO244.out) hb); have n2_ := Aside0.mk (Kd.R_lower ho25 (below_size (by repeat (first | (with_reducible first | exact HB.out | apply below_alloc | apply pw_below_drewN | apply below_drew1 | refine below_set ?_ GE241.out) | exact HB.out)))); have n3_ := Aside0.mk (blk_below (g := gb241) (o := .cells #[.int .i64 t235, .int .i64 t236, .int .i64 t237, .slice Ao21 t238.length co21] 27 (0, 0)) (by (with_reducible repeat (first | refine blk_drewN ?_ _ | refine blk_drew ?_ | refine blk_alloc ?_ _)); exact BK241.out) hb); have n4_ := Aside0.mk (below_step (by repeat (first | (with_reducible first | exact HB.out | apply below_alloc | apply pw_below_drewN | apply below_drew1 | refine below_set ?_ GE241.out) | exact HB.out)) hb); clear HO240; clear HO244; clear BK241; clear HB; have HO240 := n0_; have HO244 := n1_; have HO247 := n2_; have BK241 := n3_; have HB := n4_; clear n0_ n1_ n2_ n3_ n4_; clear hb ho25; have hcz26_0 : w24.cell? ⟨gb241, 0, none⟩ = some (.int .i64 t235) := (blk_cell BK241.out 0).trans rfl; have hcz26_1 : w24.cell? ⟨gb241, 1, none⟩ = some (.int .i64 t236) := (blk_cell BK241.out 1).trans rfl; have hcz26_2 : w24.cell? ⟨gb241, 2, none⟩ = some (.int .i64 t237) := (blk_cell BK241.out 2).trans rfl; have hcz26_3 : w24.cell? ⟨gb241, 3, none⟩ = some (.slice Ao21 t238.length co21) := (blk_cell BK241.out 3).trans rfl; have hfz26_0 := blk_frozen BK241.out 0; have hfz26_1 := blk_frozen BK241.out 1; have hfz26_2 := blk_frozen BK241.out 2; have hfz26_3 := blk_frozen BK241.out 3))
      (try simp only [Act.put, List.setIfInBounds_toArray, List.set_cons_zero, List.set_cons_succ])
      go_cut [18] (fun v18 wc => ∃ (kq : Nat) (x18_16 : List Int), Aside0 (racewaylaw6_ResidualSteps.j3 kq a5 t242 x18_16 t235 t236 t237 t238 = some r) ∧ Aside0 (kq ≤ kj7) ∧ Aside0 (Kd.R (Kd.int .i64) 2 wc w.heap.size (fun _ => True) v243 t242) ∧ Aside0 (Kd.R (Kd.int .i64) 3 wc w.heap.size (fun _ => True) v18 x18_16) ∧ Aside0 (Kd.R k49 49 wc w.heap.size (fun _ => True) (.slice Ao21 t238.length co21) t238) ∧ Aside0 (wc.heap[gb241]? = some (.cells #[.int .i64 t235, .int .i64 t236, .int .i64 t237, (.slice Ao21 t238.length co21)] 27 (0, 0))) ∧ Aside0 (Below w.heap.size w wc))
      case first =>
       have H := HC17.out
       clear HC17
       have H' := Aside0.mk H
       clear H
       go_wp2
       go_loopg [17, 18, 19] kj7 (fun kq v17 v18 v19 w' => ∃ (x16_2 : List Bool) (x17_2 : Int) (x18_2 : List Int) (x19_2 : Int), v17 = .int .i64 x17_2 ∧ v19 = .int .i64 x19_2 ∧ Aside0 (racewaylaw6_ResidualSteps.l0 kq l4 a5 t242 x16_2 x17_2 x18_2 x19_2 t235 t236 t237 t238 = some r) ∧ Aside0 (kq ≤ kj7) ∧ Aside0 (Kd.R (Kd.int .i64) 2 w' w.heap.size (fun _ => True) v243 t242) ∧ Aside0 (Kd.R Kd.bool 4 w' w.heap.size (fun _ => True) v246 x16_2) ∧ Aside0 (Kd.R (Kd.int .i64) 3 w' w.heap.size (fun _ => True) v18 x18_2) ∧ Aside0 (Kd.R k49 49 w' w.heap.size (fun _ => True) (.slice Ao21 t238.length co21) t238) ∧ Aside0 (w'.heap[gb241]? = some (.cells #[.int .i64 t235, .int .i64 t236, .int .i64 t237, (.slice Ao21 t238.length co21)] 27 (0, 0))) ∧ Aside0 (Below w.heap.size w w'))
       case atStart => exact ⟨(y245), (t236), (([] : List Int)), (0), (by first | rfl | (simp; done) | (simp [*]; done)), (by first | rfl | (simp; done) | (simp [*]; done)), H', ⟨Nat.le_refl _⟩, ⟨by (with_reducible repeat (first | apply Kd.R_alloc | apply Kd.R_drewN | apply Kd.R_drew)); exact HO244.out⟩, ⟨by (with_reducible repeat (first | apply Kd.R_alloc | apply Kd.R_drewN | apply Kd.R_drew)); exact HO247.out⟩, ⟨by first | exact Kd.R_nil _ _ _ _ _ | exact Kd.N_nil _ _ _ _ _ | exact Kd.V_nil _ _ _ _ _ | exact Kd.Q_nil _ _ _ _ _ | exact Kd.S_nil _ _ _ _ _⟩, ⟨by (with_reducible repeat (first | apply Kd.R_alloc | apply Kd.R_drewN | apply Kd.R_drew)); exact HO240.out⟩, ⟨by (with_reducible repeat (first | refine blk_drewN ?_ _ | refine blk_drew ?_ | refine blk_alloc ?_ _)); exact BK241.out⟩, ⟨by repeat (first | (with_reducible first | exact HB.out | apply below_alloc | apply pw_below_drewN | apply below_drew1 | refine below_set ?_ GE241.out) | exact HB.out)⟩⟩
       case round =>
        clear H'
        try clear c1
        try clear c2
        try clear p2
        try clear c3
        try clear c4
        try clear p6
        try clear c7
        try clear c10
        try clear c11
        try clear c14
        try clear c15
        try clear c15b0
        try clear c15b1
        try clear c16
        try clear c16b0
        try clear c16b1
        try clear hcz20_0
        try clear hcz20_1
        try clear hcz20_2
        try clear hcz20_3
        try clear hcz23_0
        try clear hcz23_1
        try clear hcz23_2
        try clear hcz23_3
        try clear hcz26_0
        try clear hcz26_1
        try clear hcz26_2
        try clear hcz26_3
        try clear hfz20_0
        try clear hfz20_1
        try clear hfz20_2
        try clear hfz20_3
        try clear hfz23_0
        try clear hfz23_1
        try clear hfz23_2
        try clear hfz23_3
        try clear hfz26_0
        try clear hfz26_1
        try clear hfz26_2
        try clear hfz26_3
        try clear p2
        obtain ⟨x16_2, x17_2, x18_2, x19_2, rfl, rfl, HA, HK2, HO_15, HO_16, HO_18, HO_242003, BK241, HB⟩ := hrel
        cases gk with
        | zero => exact absurd HA.out (by simp [racewaylaw6_ResidualSteps.l0])
        | succ k2 =>
         have H := HA.out
         clear HA
         simp only [racewaylaw6_ResidualSteps.l0] at H
         have HC27 := Aside0.mk H
         clear H
         go_upto_region 10 with (fail)
         go_cut [63] (fun v63 wc => ∃ (kq : Nat) (x63_26 : Bool), v63 = .bool x63_26 ∧ Aside0 (racewaylaw6_ResidualSteps.j2 kq l4 a5 t242 x16_2 x17_2 x18_2 x19_2 x63_26 t235 t236 t237 t238 = some r) ∧ Aside0 (kq ≤ k2) ∧ Aside0 (Kd.R (Kd.int .i64) 2 wc w.heap.size (fun _ => True) v243 t242) ∧ Aside0 (Kd.R Kd.bool 4 wc w.heap.size (fun _ => True) v246 x16_2) ∧ Aside0 (Kd.R (Kd.int .i64) 3 wc w.heap.size (fun _ => True) u18 x18_2) ∧ Aside0 (Kd.R k49 49 wc w.heap.size (fun _ => True) (.slice Ao21 t238.length co21) t238) ∧ Aside0 (wc.heap[gb241]? = some (.cells #[.int .i64 t235, .int .i64 t236, .int .i64 t237, (.slice Ao21 t238.length co21)] 27 (0, 0))) ∧ Aside0 (Below w.heap.size w wc))
         case first =>
          have H := HC27.out
          clear HC27
          by_cases c28 : x19_2 < (l4.length : Int)
          ·rw [if_pos c28] at H
           have c28b0 : decide (x19_2 < (l4.length : Int)) = true := decide_eq_true c28
           clear c28
           (first | rw [c28b0] | (simp only [i64_w, i32_w]; rw [c28b0]) | skip)
           have H' := Aside0.mk H
           clear H
           have hcz29_0 : wr.cell? ⟨gb241, 0, none⟩ = some (.int .i64 t235) := (blk_cell BK241.out 0).trans rfl
           have hcz29_1 : wr.cell? ⟨gb241, 1, none⟩ = some (.int .i64 t236) := (blk_cell BK241.out 1).trans rfl
           have hcz29_2 : wr.cell? ⟨gb241, 2, none⟩ = some (.int .i64 t237) := (blk_cell BK241.out 2).trans rfl
           have hcz29_3 : wr.cell? ⟨gb241, 3, none⟩ = some (.slice Ao21 t238.length co21) := (blk_cell BK241.out 3).trans rfl
           have hfz29_0 := blk_frozen BK241.out 0
           have hfz29_1 := blk_frozen BK241.out 1
           have hfz29_2 := blk_frozen BK241.out 2
           have hfz29_3 := blk_frozen BK241.out 3
           go_wp2
           go_meet
           case rel => exact ⟨_, ((x17_2 != t237)), (by first | rfl | (simp; done) | (simp [*]; done)), H', ⟨by have := HJ7.out; have := HK2.out; first | omega | exact Nat.le_refl _⟩, ⟨by (with_reducible repeat (first | apply Kd.R_alloc | apply Kd.R_drewN | apply Kd.R_drew)); exact HO_15.out⟩, ⟨by (with_reducible repeat (first | apply Kd.R_alloc | apply Kd.R_drewN | apply Kd.R_drew)); exact HO_16.out⟩, ⟨by (with_reducible repeat (first | apply Kd.R_alloc | apply Kd.R_drewN | apply Kd.R_drew)); exact HO_18.out⟩, ⟨by (with_reducible repeat (first | apply Kd.R_alloc | apply Kd.R_drewN | apply Kd.R_drew)); exact HO_242003.out⟩, ⟨by (with_reducible repeat (first | refine blk_drewN ?_ _ | refine blk_drew ?_ | refine blk_alloc ?_ _)); exact BK241.out⟩, ⟨by repeat (first | (with_reducible first | exact HB.out | apply below_alloc | apply pw_below_drewN | apply below_drew1 | refine below_set ?_ GE241.out) | exact HB.out)⟩⟩
          ·rw [if_neg c28] at H
           have c28b0 : decide (x19_2 < (l4.length : Int)) = false := decide_eq_false c28
           clear c28
           (first | rw [c28b0] | (simp only [i64_w, i32_w]; rw [c28b0]) | skip)
           have H' := Aside0.mk H
           clear H
           go_wp2
           go_meet
           case rel => exact ⟨_, (false), (by first | rfl | (simp; done) | (simp [*]; done)), H', ⟨by have := HJ7.out; have := HK2.out; first | omega | exact Nat.le_refl _⟩, ⟨by (with_reducible repeat (first | apply Kd.R_alloc | apply Kd.R_drewN | apply Kd.R_drew)); exact HO_15.out⟩, ⟨by (with_reducible repeat (first | apply Kd.R_alloc | apply Kd.R_drewN | apply Kd.R_drew)); exact HO_16.out⟩, ⟨by (with_reducible repeat (first | apply Kd.R_alloc | apply Kd.R_drewN | apply Kd.R_drew)); exact HO_18.out⟩, ⟨by (with_reducible repeat (first | apply Kd.R_alloc | apply Kd.R_drewN | apply Kd.R_drew)); exact HO_242003.out⟩, ⟨by (with_reducible repeat (first | refine blk_drewN ?_ _ | refine blk_drew ?_ | refine blk_alloc ?_ _)); exact BK241.out⟩, ⟨by repeat (first | (with_reducible first | exact HB.out | apply below_alloc | apply pw_below_drewN | apply below_drew1 | refine below_set ?_ GE241.out) | exact HB.out)⟩⟩
         case rest =>
          clear HC27
          try clear c1
          try clear c2
          try clear p2
          try clear c3
          try clear c4
          try clear p6
          try clear c7
          try clear c10
          try clear c11
          try clear c14
          try clear c15
          try clear c15b0
          try clear c15b1
          try clear c16
          try clear c16b0
          try clear c16b1
          try clear c28
          try clear c28b0
          try clear hcz20_0
          try clear hcz20_1
          try clear hcz20_2
          try clear hcz20_3
          try clear hcz23_0
          try clear hcz23_1
          try clear hcz23_2
          try clear hcz23_3
          try clear hcz26_0
          try clear hcz26_1
          try clear hcz26_2
          try clear hcz26_3
          try clear hcz29_0
          try clear hcz29_1
          try clear hcz29_2
          try clear hcz29_3
          try clear hfz20_0
          try clear hfz20_1
          try clear hfz20_2
          try clear hfz20_3
          try clear hfz23_0
          try clear hfz23_1
          try clear hfz23_2
          try clear hfz23_3
          try clear hfz26_0
          try clear hfz26_1
          try clear hfz26_2
          try clear hfz26_3
          try clear hfz29_0
          try clear hfz29_1
          try clear hfz29_2
          try clear hfz29_3
          try clear p2
          try clear p6
          obtain ⟨kq, x63_26, rfl, HA, HJ26, HO_15, HO_16, HO_18, HO_242003, BK241, HB⟩ := hcut
          cases kq with
          | zero => exact absurd HA.out (by simp [racewaylaw6_ResidualSteps.j2])
          | succ kj26 =>
           have H := HA.out
           clear HA
           simp only [racewaylaw6_ResidualSteps.j2] at H
           by_cases c30 : x63_26 = true
           ·subst c30
            have H1 : (if 0 ≤ x17_2 then (if x17_2 < (x16_2.length : Int) then ((some (x16_2.set (x17_2 : Int).toNat true : List Bool)).bind fun y248 => ((residual_From.f kj26 t235 t236 t237 t238 x17_2).bind fun t249 => (if (t249.length : Int) = 0 then (racewaylaw6_ResidualSteps.j3 kj26 a5 t242 x18_2 t235 t236 t237 t238) else (if 0 ≤ x19_2 then (if x19_2 < (l4.length : Int) then ((racewaylaw6_pick.f (rd l4 x19_2) (t249.length : Int)).bind fun t253 => (if 0 ≤ t253 then (if t253 < (t249.length : Int) then ((residual_Ends.f kj26 t235 t236 t237 t238 (rd t249 t253)).bind fun bt255 => (if 0 ≤ bt255.2 then (if bt255.2 < (x16_2.length : Int) then (if rdOf false y248 bt255.2 = true then (racewaylaw6_ResidualSteps.l0 kj26 l4 a5 t242 y248 x17_2 x18_2 (wrap64 (x19_2 + 1)) t235 t236 t237 t238) else (if x18_2.length < 17592186044416 then (racewaylaw6_ResidualSteps.l0 kj26 l4 a5 t242 y248 bt255.2 (x18_2 ++ [rd t249 t253]) (wrap64 (x19_2 + 1)) t235 t236 t237 t238) else (none))) else (none)) else (none))) else (none)) else (none))) else (none)) else (none))))) else (none)) else (none)) = some r := by rw [if_pos rfl] at H; exact H
            clear H
            have H := H1
            clear H1
            by_cases c31 : 0 ≤ x17_2
            ·rw [if_pos c31] at H
             have c31b0 : decide (0 ≤ x17_2) = true := decide_eq_true c31
             clear c31
             by_cases c32 : x17_2 < (x16_2.length : Int)
             ·rw [if_pos c32] at H
              have c32b0 : decide (x17_2 < (x16_2.length : Int)) = true := decide_eq_true c32
              clear c32
              obtain ⟨y248, hy248⟩ : ∃ y_ : List Bool, y_ = (x16_2.set (x17_2 : Int).toNat true) := ⟨_, rfl⟩
              replace H : ((residual_From.f kj26 t235 t236 t237 t238 x17_2).bind fun t249 => (if (t249.length : Int) = 0 then (racewaylaw6_ResidualSteps.j3 kj26 a5 t242 x18_2 t235 t236 t237 t238) else (if 0 ≤ x19_2 then (if x19_2 < (l4.length : Int) then ((racewaylaw6_pick.f (rd l4 x19_2) (t249.length : Int)).bind fun t253 => (if 0 ≤ t253 then (if t253 < (t249.length : Int) then ((residual_Ends.f kj26 t235 t236 t237 t238 (rd t249 t253)).bind fun bt255 => (if 0 ≤ bt255.2 then (if bt255.2 < (x16_2.length : Int) then (if rdOf false y248 bt255.2 = true then (racewaylaw6_ResidualSteps.l0 kj26 l4 a5 t242 y248 x17_2 x18_2 (wrap64 (x19_2 + 1)) t235 t236 t237 t238) else (if x18_2.length < 17592186044416 then (racewaylaw6_ResidualSteps.l0 kj26 l4 a5 t242 y248 bt255.2 (x18_2 ++ [rd t249 t253]) (wrap64 (x19_2 + 1)) t235 t236 t237 t238) else (none))) else (none)) else (none))) else (none)) else (none))) else (none)) else (none)))) = some r := by first | (rw [hy248]; with_reducible exact H) | (have H2_ := (Option.bind_some _ _).symm.trans H; rw [hy248]; with_reducible exact H2_) | (have H2_ := (Option.bind_some _ _).symm.trans H; with_reducible exact H2_) | with_reducible exact H | (rw [hy248]; exact H) | exact H
              have Ny248 := Aside0.mk hy248
              clear hy248
              replace H := Option.bind_eq_some_iff.mp H
              obtain ⟨t249, A340, H⟩ := H
              replace H : (if (t249.length : Int) = 0 then (racewaylaw6_ResidualSteps.j3 kj26 a5 t242 x18_2 t235 t236 t237 t238) else (if 0 ≤ x19_2 then (if x19_2 < (l4.length : Int) then ((racewaylaw6_pick.f (rd l4 x19_2) (t249.length : Int)).bind fun t253 => (if 0 ≤ t253 then (if t253 < (t249.length : Int) then ((residual_Ends.f kj26 t235 t236 t237 t238 (rd t249 t253)).bind fun bt255 => (if 0 ≤ bt255.2 then (if bt255.2 < (x16_2.length : Int) then (if rdOf false y248 bt255.2 = true then (racewaylaw6_ResidualSteps.l0 kj26 l4 a5 t242 y248 x17_2 x18_2 (wrap64 (x19_2 + 1)) t235 t236 t237 t238) else (if x18_2.length < 17592186044416 then (racewaylaw6_ResidualSteps.l0 kj26 l4 a5 t242 y248 bt255.2 (x18_2 ++ [rd t249 t253]) (wrap64 (x19_2 + 1)) t235 t236 t237 t238) else (none))) else (none)) else (none))) else (none)) else (none))) else (none)) else (none))) = some r := H
              have A34 := Aside0.mk A340
              clear A340
              by_cases c35 : (t249.length : Int) = 0
              ·rw [if_pos c35] at H
               have c35b0 : ((t249.length : Int) == 0) = true := beq_iff_eq.mpr c35
               have c35b1 : ((t249.length : Int) != 0) = false := bne_eq_false_iff_eq.mpr c35
               clear c35
               have H' := Aside0.mk H
               clear H
               have p33 : 0 ≤ (x17_2 : Int) := of_decide_eq_true (by first | (with_reducible assumption) | assumption)
               have q33 : (x17_2 : Int) < ((x16_2.length : Int) : Int) := of_decide_eq_true (by first | (with_reducible assumption) | assumption)
               obtain ⟨go33, co33, eo33, gb33, gl33, cl33, HG33⟩ := Kd.R_form HO_16.out (by omega)
               (first | cases eo33 | (injection eo33 with ea_ en_ ec_; (first | subst ea_ | (injection ea_ with ea_; subst ea_)); subst ec_; clear en_))
               have GB33 := Aside0.mk gb33
               have GG33 := Aside0.mk HG33
               clear gb33 gl33 HG33
               obtain ⟨hx33_0, hf33_0⟩ := Kd.R_celln false HO_16.out (x17_2 : Int) p33 q33
               replace p33 := eq_true p33
               replace q33 := eq_true q33
               have HP36 := Kd.R_putg HO_16.out (x17_2 : Int) true
               go_wp2_with (first | ((with_reducible refine gate_store (t := 4) (p := 68) rfl ?_); refine store_event (t := 4) (p := 68) (v := ?vo_w37) (w1 := (wc.setCell ⟨go33, (x17_2 : Int).toNat, none⟩ (.bool true))) ?hg ?ho ?hn ?hr ?_; (case ho => rfl); (case hg => rfl); (case hn => rfl); (case hr => first | (go_simp; done) | (go_simp; rfl)); intro w37 hw; have hg : wc.grownBy w37 (some go33) := (by rw [hw]; exact HP36.2); have hp_ : Kd.R Kd.bool 4 w37 w.heap.size (fun _ => True) (.slice (some ⟨go33, 0, none⟩) x16_2.length co33) y248 := (by rw [hw, Ny248.out]; exact HP36.1); clear HP36; have n0_ := Aside0.mk (Kd.R_over' (v := (.slice (some ⟨go33, 0, none⟩) x16_2.length co33)) (by (with_reducible repeat (first | apply Kd.R_alloc | apply Kd.R_drewN | apply Kd.R_drew)); exact HO_15.out) (Kd.R_typed HO_16.out) (by decide) hg); have n1_ := Aside0.mk (hp_); have n2_ := Aside0.mk (Kd.R_over' (v := (.slice (some ⟨go33, 0, none⟩) x16_2.length co33)) (by (with_reducible repeat (first | apply Kd.R_alloc | apply Kd.R_drewN | apply Kd.R_drew)); exact HO_18.out) (Kd.R_typed HO_16.out) (by decide) hg); have n3_ := Aside0.mk (Kd.R_over' (v := (.slice (some ⟨go33, 0, none⟩) x16_2.length co33)) (by (with_reducible repeat (first | apply Kd.R_alloc | apply Kd.R_drewN | apply Kd.R_drew)); exact HO_242003.out) (Kd.R_typed HO_16.out) (by decide) hg); have n4_ := Aside0.mk (blk_grown (g := gb241) (o := .cells #[.int .i64 t235, .int .i64 t236, .int .i64 t237, .slice Ao21 t238.length co21] 27 (0, 0)) (by (with_reducible repeat (first | refine blk_drewN ?_ _ | refine blk_drew ?_ | refine blk_alloc ?_ _)); exact BK241.out) hg (Kd.R_ne HO_16.out BK241.out (by decide))); have n5_ := Aside0.mk ((by rw [hw]; exact below_set (HB.out) GB33.out : Below w.heap.size w w37)); clear HO_15; clear HO_16; clear HO_18; clear HO_242003; clear BK241; clear HB; have HO_15 := n0_; have HO_16 := n1_; have HO_18 := n2_; have HO_242003 := n3_; have BK241 := n4_; have HB := n5_; clear n0_ n1_ n2_ n3_ n4_ n5_; clear hg hw hp_; have hcz38_0 : w37.cell? ⟨gb241, 0, none⟩ = some (.int .i64 t235) := (blk_cell BK241.out 0).trans rfl; have hcz38_1 : w37.cell? ⟨gb241, 1, none⟩ = some (.int .i64 t236) := (blk_cell BK241.out 1).trans rfl; have hcz38_2 : w37.cell? ⟨gb241, 2, none⟩ = some (.int .i64 t237) := (blk_cell BK241.out 2).trans rfl; have hcz38_3 : w37.cell? ⟨gb241, 3, none⟩ = some (.slice Ao21 t238.length co21) := (blk_cell BK241.out 3).trans rfl; have hfz38_0 := blk_frozen BK241.out 0; have hfz38_1 := blk_frozen BK241.out 1; have hfz38_2 := blk_frozen BK241.out 2; have hfz38_3 := blk_frozen BK241.out 3) | ((with_reducible refine gate_callee (f := 20) rfl ?_); refine goesL_ (some 71) rfl rfl Try.func20 (by kernel_rfl) rfl #[.agg #[.int .i64 t235, .int .i64 t236, .int .i64 t237, .slice Ao21 t238.length co21], .int .i64 x17_2] rfl (by (try simp only [List.map_toArray, List.map_cons, List.map_nil]); first | done | rfl | (simp only [List.length_drop, List.length_take]; rfl)) ?_; (with_reducible refine (residual_From.calls kj26 t235 t236 t237 _ _ t238 x17_2 t249 _ ?side1 ?side2 A34.out).mono ?_); (case side1 => repeat (first | exact (Kd.R_reads' HO_242003.out).2.2 | (with_reducible refine Kd.C_alloc ?_ _) | (with_reducible refine Kd.C_drewN ?_ _) | (with_reducible refine Kd.C_drew ?_))); (case side2 => exact (Kd.R_reads' HO_242003.out).2.1); rintro e w39 ⟨v250, rfl, ho0, hb⟩; refine ⟨_, rfl, ?_⟩; have n0_ := Aside0.mk (Kd.R_below (by (with_reducible repeat (first | apply Kd.R_alloc | apply Kd.R_drewN | apply Kd.R_drew)); exact HO_15.out) hb); have n1_ := Aside0.mk (Kd.R_below (by (with_reducible repeat (first | apply Kd.R_alloc | apply Kd.R_drewN | apply Kd.R_drew)); exact HO_16.out) hb); have n2_ := Aside0.mk (Kd.R_elder' (by (with_reducible repeat (first | apply Kd.R_alloc | apply Kd.R_drewN | apply Kd.R_drew)); exact HO_18.out) (Kd.R_base ho0) hb); have n3_ := Aside0.mk (Kd.R_below (by (with_reducible repeat (first | apply Kd.R_alloc | apply Kd.R_drewN | apply Kd.R_drew)); exact HO_242003.out) hb); have n4_ := Aside0.mk (Kd.R_lower (Kd.R_new' ho0 (Kd.R_lt (by (with_reducible repeat (first | apply Kd.R_alloc | apply Kd.R_drewN | apply Kd.R_drew)); exact HO_18.out))) (below_size (by repeat (first | (with_reducible first | exact HB.out | apply below_alloc | apply pw_below_drewN | apply below_drew1 | refine below_set ?_ GE241.out) | exact HB.out)))); have n5_ := Aside0.mk (blk_below (g := gb241) (o := .cells #[.int .i64 t235, .int .i64 t236, .int .i64 t237, .slice Ao21 t238.length co21] 27 (0, 0)) (by (with_reducible repeat (first | refine blk_drewN ?_ _ | refine blk_drew ?_ | refine blk_alloc ?_ _)); exact BK241.out) hb); have n6_ := Aside0.mk (below_step (by repeat (first | (with_reducible first | exact HB.out | apply below_alloc | apply pw_below_drewN | apply below_drew1 | refine below_set ?_ GE241.out) | exact HB.out)) hb); clear HO_15; clear HO_16; clear HO_18; clear HO_242003; clear BK241; clear HB; have HO_15 := n0_; have HO_16 := n1_; have HO_18 := n2_; have HO_242003 := n3_; have HO251 := n4_; have BK241 := n5_; have HB := n6_; clear n0_ n1_ n2_ n3_ n4_ n5_ n6_; (try clear hb); (try clear hb2); (try clear hk); (try clear hi); (try clear ho0); obtain ⟨Ao40, co40, eo40⟩ := Kd.R_slice HO251.out; subst eo40))
               go_meet
               case rel => exact ⟨_, (x18_2), H', ⟨by have := HJ7.out; have := HK2.out; have := HJ26.out; first | omega | exact Nat.le_refl _⟩, ⟨by (with_reducible repeat (first | apply Kd.R_alloc | apply Kd.R_drewN | apply Kd.R_drew)); exact HO_15.out⟩, ⟨by (with_reducible repeat (first | apply Kd.R_alloc | apply Kd.R_drewN | apply Kd.R_drew)); exact Kd.R_mono HO_18.out (fun _ hk => trivial)⟩, ⟨by (with_reducible repeat (first | apply Kd.R_alloc | apply Kd.R_drewN | apply Kd.R_drew)); exact HO_242003.out⟩, ⟨by (with_reducible repeat (first | refine blk_drewN ?_ _ | refine blk_drew ?_ | refine blk_alloc ?_ _)); exact BK241.out⟩, ⟨by repeat (first | (with_reducible first | exact HB.out | apply below_alloc | apply pw_below_drewN | apply below_drew1 | refine below_set ?_ GE241.out) | exact HB.out)⟩⟩
              ·rw [if_neg c35] at H
               have c35b0 : ((t249.length : Int) == 0) = false := beq_eq_false_iff_ne.mpr c35
               have c35b1 : ((t249.length : Int) != 0) = true := bne_iff_ne.mpr c35
               have c35b2 : ¬ (t249 = []) := fun h_ => c35 (by rw [h_]; rfl)
               by_cases c41 : 0 ≤ x19_2
               ·rw [if_pos c41] at H
                have c41b0 : decide (0 ≤ x19_2) = true := decide_eq_true c41
                clear c41
                by_cases c42 : x19_2 < (l4.length : Int)
                ·rw [if_pos c42] at H
                 have c42b0 : decide (x19_2 < (l4.length : Int)) = true := decide_eq_true c42
                 clear c42
                 replace H := Option.bind_eq_some_iff.mp H
                 obtain ⟨t253, A430, H⟩ := H
                 replace H : (if 0 ≤ t253 then (if t253 < (t249.length : Int) then ((residual_Ends.f kj26 t235 t236 t237 t238 (rd t249 t253)).bind fun bt255 => (if 0 ≤ bt255.2 then (if bt255.2 < (x16_2.length : Int) then (if rdOf false y248 bt255.2 = true then (racewaylaw6_ResidualSteps.l0 kj26 l4 a5 t242 y248 x17_2 x18_2 (wrap64 (x19_2 + 1)) t235 t236 t237 t238) else (if x18_2.length < 17592186044416 then (racewaylaw6_ResidualSteps.l0 kj26 l4 a5 t242 y248 bt255.2 (x18_2 ++ [rd t249 t253]) (wrap64 (x19_2 + 1)) t235 t236 t237 t238) else (none))) else (none)) else (none))) else (none)) else (none)) = some r := H
                 have A43 := Aside0.mk A430
                 clear A430
                 by_cases c44 : 0 ≤ t253
                 ·rw [if_pos c44] at H
                  have c44b0 : decide (0 ≤ t253) = true := decide_eq_true c44
                  clear c44
                  by_cases c45 : t253 < (t249.length : Int)
                  ·rw [if_pos c45] at H
                   have c45b0 : decide (t253 < (t249.length : Int)) = true := decide_eq_true c45
                   clear c45
                   replace H := Option.bind_eq_some_iff.mp H
                   obtain ⟨⟨t255, t256⟩, A460, H⟩ := H
                   replace H : (if 0 ≤ t256 then (if t256 < (x16_2.length : Int) then (if rdOf false y248 t256 = true then (racewaylaw6_ResidualSteps.l0 kj26 l4 a5 t242 y248 x17_2 x18_2 (wrap64 (x19_2 + 1)) t235 t236 t237 t238) else (if x18_2.length < 17592186044416 then (racewaylaw6_ResidualSteps.l0 kj26 l4 a5 t242 y248 t256 (x18_2 ++ [rd t249 t253]) (wrap64 (x19_2 + 1)) t235 t236 t237 t238) else (none))) else (none)) else (none)) = some r := H
                   have A46 := Aside0.mk A460
                   clear A460
                   by_cases c47 : 0 ≤ t256
                   ·rw [if_pos c47] at H
                    have c47b0 : decide (0 ≤ t256) = true := decide_eq_true c47
                    clear c47
                    by_cases c48 : t256 < (x16_2.length : Int)
                    ·rw [if_pos c48] at H
                     have c48b0 : decide (t256 < (x16_2.length : Int)) = true := decide_eq_true c48
                     clear c48
                     obtain ⟨bq49, hbq49⟩ : ∃ b_ : Bool, b_ = (rdOf false y248 t256) := ⟨_, rfl⟩
                     replace H : (if bq49 = true then (racewaylaw6_ResidualSteps.l0 kj26 l4 a5 t242 y248 x17_2 x18_2 (wrap64 (x19_2 + 1)) t235 t236 t237 t238) else (if x18_2.length < 17592186044416 then (racewaylaw6_ResidualSteps.l0 kj26 l4 a5 t242 y248 t256 (x18_2 ++ [rd t249 t253]) (wrap64 (x19_2 + 1)) t235 t236 t237 t238) else (none))) = some r := by rw [← hbq49] at H; exact H
                     have Nbq49 := Aside0.mk hbq49
                     clear hbq49
                     by_cases c50 : bq49 = true
                     ·subst c50
                      have H1 : (racewaylaw6_ResidualSteps.l0 kj26 l4 a5 t242 y248 x17_2 x18_2 (wrap64 (x19_2 + 1)) t235 t236 t237 t238) = some r := by rw [if_pos rfl] at H; exact H
                      clear H
                      have H := H1
                      clear H1
                      have H' := Aside0.mk H
                      clear H
                      have p33 : 0 ≤ (x17_2 : Int) := of_decide_eq_true (by first | (with_reducible assumption) | assumption)
                      have q33 : (x17_2 : Int) < ((x16_2.length : Int) : Int) := of_decide_eq_true (by first | (with_reducible assumption) | assumption)
                      obtain ⟨go33, co33, eo33, gb33, gl33, cl33, HG33⟩ := Kd.R_form HO_16.out (by omega)
                      (first | cases eo33 | (injection eo33 with ea_ en_ ec_; (first | subst ea_ | (injection ea_ with ea_; subst ea_)); subst ec_; clear en_))
                      have GB33 := Aside0.mk gb33
                      have GG33 := Aside0.mk HG33
                      clear gb33 gl33 HG33
                      obtain ⟨hx33_0, hf33_0⟩ := Kd.R_celln false HO_16.out (x17_2 : Int) p33 q33
                      replace p33 := eq_true p33
                      replace q33 := eq_true q33
                      have HP51 := Kd.R_putg HO_16.out (x17_2 : Int) true
                      go_wp2_with (first | ((with_reducible refine gate_store (t := 4) (p := 68) rfl ?_); refine store_event (t := 4) (p := 68) (v := ?vo_w52) (w1 := (wc.setCell ⟨go33, (x17_2 : Int).toNat, none⟩ (.bool true))) ?hg ?ho ?hn ?hr ?_; (case ho => rfl); (case hg => rfl); (case hn => rfl); (case hr => first | (go_simp; done) | (go_simp; rfl)); intro w52 hw; have hg : wc.grownBy w52 (some go33) := (by rw [hw]; exact HP51.2); have hp_ : Kd.R Kd.bool 4 w52 w.heap.size (fun _ => True) (.slice (some ⟨go33, 0, none⟩) x16_2.length co33) y248 := (by rw [hw, Ny248.out]; exact HP51.1); clear HP51; have n0_ := Aside0.mk (Kd.R_over' (v := (.slice (some ⟨go33, 0, none⟩) x16_2.length co33)) (by (with_reducible repeat (first | apply Kd.R_alloc | apply Kd.R_drewN | apply Kd.R_drew)); exact HO_15.out) (Kd.R_typed HO_16.out) (by decide) hg); have n1_ := Aside0.mk (hp_); have n2_ := Aside0.mk (Kd.R_over' (v := (.slice (some ⟨go33, 0, none⟩) x16_2.length co33)) (by (with_reducible repeat (first | apply Kd.R_alloc | apply Kd.R_drewN | apply Kd.R_drew)); exact HO_18.out) (Kd.R_typed HO_16.out) (by decide) hg); have n3_ := Aside0.mk (Kd.R_over' (v := (.slice (some ⟨go33, 0, none⟩) x16_2.length co33)) (by (with_reducible repeat (first | apply Kd.R_alloc | apply Kd.R_drewN | apply Kd.R_drew)); exact HO_242003.out) (Kd.R_typed HO_16.out) (by decide) hg); have n4_ := Aside0.mk (blk_grown (g := gb241) (o := .cells #[.int .i64 t235, .int .i64 t236, .int .i64 t237, .slice Ao21 t238.length co21] 27 (0, 0)) (by (with_reducible repeat (first | refine blk_drewN ?_ _ | refine blk_drew ?_ | refine blk_alloc ?_ _)); exact BK241.out) hg (Kd.R_ne HO_16.out BK241.out (by decide))); have n5_ := Aside0.mk ((by rw [hw]; exact below_set (HB.out) GB33.out : Below w.heap.size w w52)); clear HO_15; clear HO_16; clear HO_18; clear HO_242003; clear BK241; clear HB; have HO_15 := n0_; have HO_16 := n1_; have HO_18 := n2_; have HO_242003 := n3_; have BK241 := n4_; have HB := n5_; clear n0_ n1_ n2_ n3_ n4_ n5_; clear hg hw hp_; have hcz53_0 : w52.cell? ⟨gb241, 0, none⟩ = some (.int .i64 t235) := (blk_cell BK241.out 0).trans rfl; have hcz53_1 : w52.cell? ⟨gb241, 1, none⟩ = some (.int .i64 t236) := (blk_cell BK241.out 1).trans rfl; have hcz53_2 : w52.cell? ⟨gb241, 2, none⟩ = some (.int .i64 t237) := (blk_cell BK241.out 2).trans rfl; have hcz53_3 : w52.cell? ⟨gb241, 3, none⟩ = some (.slice Ao21 t238.length co21) := (blk_cell BK241.out 3).trans rfl; have hfz53_0 := blk_frozen BK241.out 0; have hfz53_1 := blk_frozen BK241.out 1; have hfz53_2 := blk_frozen BK241.out 2; have hfz53_3 := blk_frozen BK241.out 3) | ((with_reducible refine gate_callee (f := 20) rfl ?_); refine goesL_ (some 71) rfl rfl Try.func20 (by kernel_rfl) rfl #[.agg #[.int .i64 t235, .int .i64 t236, .int .i64 t237, .slice Ao21 t238.length co21], .int .i64 x17_2] rfl (by (try simp only [List.map_toArray, List.map_cons, List.map_nil]); first | done | rfl | (simp only [List.length_drop, List.length_take]; rfl)) ?_; (with_reducible refine (residual_From.calls kj26 t235 t236 t237 _ _ t238 x17_2 t249 _ ?side1 ?side2 A34.out).mono ?_); (case side1 => repeat (first | exact (Kd.R_reads' HO_242003.out).2.2 | (with_reducible refine Kd.C_alloc ?_ _) | (with_reducible refine Kd.C_drewN ?_ _) | (with_reducible refine Kd.C_drew ?_))); (case side2 => exact (Kd.R_reads' HO_242003.out).2.1); rintro e w54 ⟨v250, rfl, ho0, hb⟩; refine ⟨_, rfl, ?_⟩; have n0_ := Aside0.mk (Kd.R_below (by (with_reducible repeat (first | apply Kd.R_alloc | apply Kd.R_drewN | apply Kd.R_drew)); exact HO_15.out) hb); have n1_ := Aside0.mk (Kd.R_below (by (with_reducible repeat (first | apply Kd.R_alloc | apply Kd.R_drewN | apply Kd.R_drew)); exact HO_16.out) hb); have n2_ := Aside0.mk (Kd.R_elder' (by (with_reducible repeat (first | apply Kd.R_alloc | apply Kd.R_drewN | apply Kd.R_drew)); exact HO_18.out) (Kd.R_base ho0) hb); have n3_ := Aside0.mk (Kd.R_below (by (with_reducible repeat (first | apply Kd.R_alloc | apply Kd.R_drewN | apply Kd.R_drew)); exact HO_242003.out) hb); have n4_ := Aside0.mk (Kd.R_lower (Kd.R_new' ho0 (Kd.R_lt (by (with_reducible repeat (first | apply Kd.R_alloc | apply Kd.R_drewN | apply Kd.R_drew)); exact HO_18.out))) (below_size (by repeat (first | (with_reducible first | exact HB.out | apply below_alloc | apply pw_below_drewN | apply below_drew1 | refine below_set ?_ GE241.out) | exact HB.out)))); have n5_ := Aside0.mk (blk_below (g := gb241) (o := .cells #[.int .i64 t235, .int .i64 t236, .int .i64 t237, .slice Ao21 t238.length co21] 27 (0, 0)) (by (with_reducible repeat (first | refine blk_drewN ?_ _ | refine blk_drew ?_ | refine blk_alloc ?_ _)); exact BK241.out) hb); have n6_ := Aside0.mk (below_step (by repeat (first | (with_reducible first | exact HB.out | apply below_alloc | apply pw_below_drewN | apply below_drew1 | refine below_set ?_ GE241.out) | exact HB.out)) hb); clear HO_15; clear HO_16; clear HO_18; clear HO_242003; clear BK241; clear HB; have HO_15 := n0_; have HO_16 := n1_; have HO_18 := n2_; have HO_242003 := n3_; have HO251 := n4_; have BK241 := n5_; have HB := n6_; clear n0_ n1_ n2_ n3_ n4_ n5_ n6_; (try clear hb); (try clear hb2); (try clear hk); (try clear hi); (try clear ho0); obtain ⟨Ao55, co55, eo55⟩ := Kd.R_slice HO251.out; subst eo55; have p252 : 0 ≤ (x19_2 : Int) := of_decide_eq_true (by first | (with_reducible assumption) | assumption); have q252 : x19_2 < (l4.length : Int) := of_decide_eq_true (by first | (with_reducible assumption) | assumption); obtain ⟨ad252, e252, hx252_0⟩ := Kd.at_int HR4.out x19_2 p252 q252; cases e252; replace hx252_0 := (HB.out.cell (World.block_lt_of_cell? w _ hx252_0)).trans hx252_0; replace p252 := eq_true p252; replace q252 := eq_true q252) | ((with_reducible refine gate_callee (f := 17) rfl ?_); refine goesL_ (some 82) rfl rfl Try.func17 (by kernel_rfl) rfl #[.int .i64 (rd l4 x19_2), .int .i64 (t249.length : Int)] rfl (by (try simp only [List.map_toArray, List.map_cons, List.map_nil]); first | done | rfl | (simp only [List.length_drop, List.length_take]; rfl)) ?_; (with_reducible refine (racewaylaw6_pick.calls (rd l4 x19_2) (t249.length : Int) t253 _ A43.out).mono ?_); rintro e w' ⟨rfl, ⟨nd, rfl⟩⟩; refine ⟨_, rfl, ?_⟩; have p254 : 0 ≤ (t253 : Int) := of_decide_eq_true (by first | (with_reducible assumption) | assumption); have q254 : t253 < (t249.length : Int) := of_decide_eq_true (by first | (with_reducible assumption) | assumption); obtain ⟨ad254, e254, hx254_0⟩ := Kd.at_int (Kd.R_reads' HO251.out).2.2 t253 p254 q254; cases e254; replace p254 := eq_true p254; replace q254 := eq_true q254; have hcz56_0 : w54.cell? ⟨gb241, 0, none⟩ = some (.int .i64 t235) := (blk_cell BK241.out 0).trans rfl; have hcz56_1 : w54.cell? ⟨gb241, 1, none⟩ = some (.int .i64 t236) := (blk_cell BK241.out 1).trans rfl; have hcz56_2 : w54.cell? ⟨gb241, 2, none⟩ = some (.int .i64 t237) := (blk_cell BK241.out 2).trans rfl; have hcz56_3 : w54.cell? ⟨gb241, 3, none⟩ = some (.slice Ao21 t238.length co21) := (blk_cell BK241.out 3).trans rfl; have hfz56_0 := blk_frozen BK241.out 0; have hfz56_1 := blk_frozen BK241.out 1; have hfz56_2 := blk_frozen BK241.out 2; have hfz56_3 := blk_frozen BK241.out 3) | ((with_reducible refine gate_callee (f := 21) rfl ?_); refine goesL_ (some 88) rfl rfl Try.func21 (by kernel_rfl) rfl #[.agg #[.int .i64 t235, .int .i64 t236, .int .i64 t237, .slice Ao21 t238.length co21], .int .i64 (rd t249 t253)] rfl (by (try simp only [List.map_toArray, List.map_cons, List.map_nil]); first | done | rfl | (simp only [List.length_drop, List.length_take]; rfl)) ?_; (with_reducible refine (residual_Ends.calls kj26 t235 t236 t237 _ _ t238 (rd t249 t253) t255 t256 _ ?side1 ?side2 A46.out).mono ?_); (case side1 => repeat (first | exact (Kd.R_reads' HO_242003.out).2.2 | (with_reducible refine Kd.C_alloc ?_ _) | (with_reducible refine Kd.C_drewN ?_ _) | (with_reducible refine Kd.C_drew ?_))); (case side2 => exact (Kd.R_reads' HO_242003.out).2.1); rintro e w57 ⟨rfl, hb⟩; refine ⟨_, rfl, ?_⟩; have n0_ := Aside0.mk (Kd.R_below (by (with_reducible repeat (first | apply Kd.R_alloc | apply Kd.R_drewN | apply Kd.R_drew)); exact HO_15.out) hb); have n1_ := Aside0.mk (Kd.R_below (by (with_reducible repeat (first | apply Kd.R_alloc | apply Kd.R_drewN | apply Kd.R_drew)); exact HO_16.out) hb); have n2_ := Aside0.mk (Kd.R_below (by (with_reducible repeat (first | apply Kd.R_alloc | apply Kd.R_drewN | apply Kd.R_drew)); exact HO_18.out) hb); have n3_ := Aside0.mk (Kd.R_below (by (with_reducible repeat (first | apply Kd.R_alloc | apply Kd.R_drewN | apply Kd.R_drew)); exact HO_242003.out) hb); have n4_ := Aside0.mk (Kd.R_below (by (with_reducible repeat (first | apply Kd.R_alloc | apply Kd.R_drewN | apply Kd.R_drew)); exact HO251.out) hb); have n5_ := Aside0.mk (blk_below (g := gb241) (o := .cells #[.int .i64 t235, .int .i64 t236, .int .i64 t237, .slice Ao21 t238.length co21] 27 (0, 0)) (by (with_reducible repeat (first | refine blk_drewN ?_ _ | refine blk_drew ?_ | refine blk_alloc ?_ _)); exact BK241.out) hb); have n6_ := Aside0.mk (below_step (by repeat (first | (with_reducible first | exact HB.out | apply below_alloc | apply pw_below_drewN | apply below_drew1 | refine below_set ?_ GE241.out) | exact HB.out)) hb); clear HO_15; clear HO_16; clear HO_18; clear HO_242003; clear HO251; clear BK241; clear HB; have HO_15 := n0_; have HO_16 := n1_; have HO_18 := n2_; have HO_242003 := n3_; have HO251 := n4_; have BK241 := n5_; have HB := n6_; clear n0_ n1_ n2_ n3_ n4_ n5_ n6_; (try clear hb); (try clear hb2); (try clear hk); (try clear hi); have p257 : 0 ≤ (t256 : Int) := of_decide_eq_true (by first | (with_reducible assumption) | assumption); have q257 : t256 < (y248.length : Int) := (by have h_ : (t256 : Int) < ((x16_2.length : Int) : Int) := of_decide_eq_true (by first | (with_reducible assumption) | assumption); first | (have e_ := (Kd.R_reads' HO_16.out).1; omega) | simpa only [Ny248.out, List.length_set] using h_); have ql257 : ((t256 : Int) < ((x16_2.length : Int) : Int)) = True := eq_true (of_decide_eq_true (by first | (with_reducible assumption) | assumption)); obtain ⟨ad257, e257, hx257_0⟩ := Kd.at_bool (Kd.R_reads' HO_16.out).2.2 t256 p257 q257; (try rw [← Nbq49.out] at hx257_0); obtain rfl : (⟨go33, 0, none⟩ : Addr) = ad257 := (by injection e257); (first | simp only [add_plain] at hx257_0 | simp only [add_at] at hx257_0 | simp only [Addr.add, Nat.zero_add] at hx257_0 | skip); replace p257 := eq_true p257; replace q257 := eq_true q257))
                      go_roundg kj26
                      case measure => have := HJ7.out; have := HK2.out; have := HJ26.out; omega
                      case rel => exact ⟨(y248), (x17_2), (x18_2), (wrap64 (x19_2 + 1)), (by first | rfl | (simp; done) | (simp [*]; done)), (by first | rfl | (simp; done) | (simp [*]; done)), H', ⟨by have := HJ7.out; have := HK2.out; have := HJ26.out; omega⟩, ⟨by (with_reducible repeat (first | apply Kd.R_alloc | apply Kd.R_drewN | apply Kd.R_drew)); exact HO_15.out⟩, ⟨by (with_reducible repeat (first | apply Kd.R_alloc | apply Kd.R_drewN | apply Kd.R_drew)); exact HO_16.out⟩, ⟨by (with_reducible repeat (first | apply Kd.R_alloc | apply Kd.R_drewN | apply Kd.R_drew)); exact Kd.R_mono HO_18.out (fun _ hk => trivial)⟩, ⟨by (with_reducible repeat (first | apply Kd.R_alloc | apply Kd.R_drewN | apply Kd.R_drew)); exact HO_242003.out⟩, ⟨by (with_reducible repeat (first | refine blk_drewN ?_ _ | refine blk_drew ?_ | refine blk_alloc ?_ _)); exact BK241.out⟩, ⟨by repeat (first | (with_reducible first | exact HB.out | apply below_alloc | apply pw_below_drewN | apply below_drew1 | refine below_set ?_ GE241.out) | exact HB.out)⟩⟩
                     ·replace c50 := Bool.eq_false_iff.mpr c50
                      subst c50
                      have H1 : (if x18_2.length < 17592186044416 then (racewaylaw6_ResidualSteps.l0 kj26 l4 a5 t242 y248 t256 (x18_2 ++ [rd t249 t253]) (wrap64 (x19_2 + 1)) t235 t236 t237 t238) else (none)) = some r := by rw [if_neg (show ¬ (false = true) by decide)] at H; exact H
                      clear H
                      have H := H1
                      clear H1
                      by_cases c58 : x18_2.length < 17592186044416
                      ·rw [if_pos c58] at H
                       have LMc58 := Aside0.mk c58
                       clear c58
                       obtain ⟨y258, hy258⟩ : ∃ y_ : List Int, y_ = (x18_2 ++ [rd t249 t253]) := ⟨_, rfl⟩
                       replace H : (racewaylaw6_ResidualSteps.l0 kj26 l4 a5 t242 y248 t256 y258 (wrap64 (x19_2 + 1)) t235 t236 t237 t238) = some r := by first | (rw [hy258]; with_reducible exact H) | (have H2_ := (Option.bind_some _ _).symm.trans H; rw [hy258]; with_reducible exact H2_) | (have H2_ := (Option.bind_some _ _).symm.trans H; with_reducible exact H2_) | with_reducible exact H | (rw [hy258]; exact H) | exact H
                       have Ny258 := Aside0.mk hy258
                       clear hy258
                       have H' := Aside0.mk H
                       clear H
                       have p33 : 0 ≤ (x17_2 : Int) := of_decide_eq_true (by first | (with_reducible assumption) | assumption)
                       have q33 : (x17_2 : Int) < ((x16_2.length : Int) : Int) := of_decide_eq_true (by first | (with_reducible assumption) | assumption)
                       obtain ⟨go33, co33, eo33, gb33, gl33, cl33, HG33⟩ := Kd.R_form HO_16.out (by omega)
                       (first | cases eo33 | (injection eo33 with ea_ en_ ec_; (first | subst ea_ | (injection ea_ with ea_; subst ea_)); subst ec_; clear en_))
                       have GB33 := Aside0.mk gb33
                       have GG33 := Aside0.mk HG33
                       clear gb33 gl33 HG33
                       obtain ⟨hx33_0, hf33_0⟩ := Kd.R_celln false HO_16.out (x17_2 : Int) p33 q33
                       replace p33 := eq_true p33
                       replace q33 := eq_true q33
                       have HP59 := Kd.R_putg HO_16.out (x17_2 : Int) true
                       go_wp2_with (first | ((with_reducible refine gate_store (t := 4) (p := 68) rfl ?_); refine store_event (t := 4) (p := 68) (v := ?vo_w60) (w1 := (wc.setCell ⟨go33, (x17_2 : Int).toNat, none⟩ (.bool true))) ?hg ?ho ?hn ?hr ?_; (case ho => rfl); (case hg => rfl); (case hn => rfl); (case hr => first | (go_simp; done) | (go_simp; rfl)); intro w60 hw; have hg : wc.grownBy w60 (some go33) := (by rw [hw]; exact HP59.2); have hp_ : Kd.R Kd.bool 4 w60 w.heap.size (fun _ => True) (.slice (some ⟨go33, 0, none⟩) x16_2.length co33) y248 := (by rw [hw, Ny248.out]; exact HP59.1); clear HP59; have n0_ := Aside0.mk (Kd.R_over' (v := (.slice (some ⟨go33, 0, none⟩) x16_2.length co33)) (by (with_reducible repeat (first | apply Kd.R_alloc | apply Kd.R_drewN | apply Kd.R_drew)); exact HO_15.out) (Kd.R_typed HO_16.out) (by decide) hg); have n1_ := Aside0.mk (hp_); have n2_ := Aside0.mk (Kd.R_over' (v := (.slice (some ⟨go33, 0, none⟩) x16_2.length co33)) (by (with_reducible repeat (first | apply Kd.R_alloc | apply Kd.R_drewN | apply Kd.R_drew)); exact HO_18.out) (Kd.R_typed HO_16.out) (by decide) hg); have n3_ := Aside0.mk (Kd.R_over' (v := (.slice (some ⟨go33, 0, none⟩) x16_2.length co33)) (by (with_reducible repeat (first | apply Kd.R_alloc | apply Kd.R_drewN | apply Kd.R_drew)); exact HO_242003.out) (Kd.R_typed HO_16.out) (by decide) hg); have n4_ := Aside0.mk (blk_grown (g := gb241) (o := .cells #[.int .i64 t235, .int .i64 t236, .int .i64 t237, .slice Ao21 t238.length co21] 27 (0, 0)) (by (with_reducible repeat (first | refine blk_drewN ?_ _ | refine blk_drew ?_ | refine blk_alloc ?_ _)); exact BK241.out) hg (Kd.R_ne HO_16.out BK241.out (by decide))); have n5_ := Aside0.mk ((by rw [hw]; exact below_set (HB.out) GB33.out : Below w.heap.size w w60)); clear HO_15; clear HO_16; clear HO_18; clear HO_242003; clear BK241; clear HB; have HO_15 := n0_; have HO_16 := n1_; have HO_18 := n2_; have HO_242003 := n3_; have BK241 := n4_; have HB := n5_; clear n0_ n1_ n2_ n3_ n4_ n5_; clear hg hw hp_; have hcz61_0 : w60.cell? ⟨gb241, 0, none⟩ = some (.int .i64 t235) := (blk_cell BK241.out 0).trans rfl; have hcz61_1 : w60.cell? ⟨gb241, 1, none⟩ = some (.int .i64 t236) := (blk_cell BK241.out 1).trans rfl; have hcz61_2 : w60.cell? ⟨gb241, 2, none⟩ = some (.int .i64 t237) := (blk_cell BK241.out 2).trans rfl; have hcz61_3 : w60.cell? ⟨gb241, 3, none⟩ = some (.slice Ao21 t238.length co21) := (blk_cell BK241.out 3).trans rfl; have hfz61_0 := blk_frozen BK241.out 0; have hfz61_1 := blk_frozen BK241.out 1; have hfz61_2 := blk_frozen BK241.out 2; have hfz61_3 := blk_frozen BK241.out 3) | ((with_reducible refine gate_callee (f := 20) rfl ?_); refine goesL_ (some 71) rfl rfl Try.func20 (by kernel_rfl) rfl #[.agg #[.int .i64 t235, .int .i64 t236, .int .i64 t237, .slice Ao21 t238.length co21], .int .i64 x17_2] rfl (by (try simp only [List.map_toArray, List.map_cons, List.map_nil]); first | done | rfl | (simp only [List.length_drop, List.length_take]; rfl)) ?_; (with_reducible refine (residual_From.calls kj26 t235 t236 t237 _ _ t238 x17_2 t249 _ ?side1 ?side2 A34.out).mono ?_); (case side1 => repeat (first | exact (Kd.R_reads' HO_242003.out).2.2 | (with_reducible refine Kd.C_alloc ?_ _) | (with_reducible refine Kd.C_drewN ?_ _) | (with_reducible refine Kd.C_drew ?_))); (case side2 => exact (Kd.R_reads' HO_242003.out).2.1); rintro e w62 ⟨v250, rfl, ho0, hb⟩; refine ⟨_, rfl, ?_⟩; have n0_ := Aside0.mk (Kd.R_below (by (with_reducible repeat (first | apply Kd.R_alloc | apply Kd.R_drewN | apply Kd.R_drew)); exact HO_15.out) hb); have n1_ := Aside0.mk (Kd.R_below (by (with_reducible repeat (first | apply Kd.R_alloc | apply Kd.R_drewN | apply Kd.R_drew)); exact HO_16.out) hb); have n2_ := Aside0.mk (Kd.R_elder' (by (with_reducible repeat (first | apply Kd.R_alloc | apply Kd.R_drewN | apply Kd.R_drew)); exact HO_18.out) (Kd.R_base ho0) hb); have n3_ := Aside0.mk (Kd.R_below (by (with_reducible repeat (first | apply Kd.R_alloc | apply Kd.R_drewN | apply Kd.R_drew)); exact HO_242003.out) hb); have n4_ := Aside0.mk (Kd.R_lower (Kd.R_new' ho0 (Kd.R_lt (by (with_reducible repeat (first | apply Kd.R_alloc | apply Kd.R_drewN | apply Kd.R_drew)); exact HO_18.out))) (below_size (by repeat (first | (with_reducible first | exact HB.out | apply below_alloc | apply pw_below_drewN | apply below_drew1 | refine below_set ?_ GE241.out) | exact HB.out)))); have n5_ := Aside0.mk (blk_below (g := gb241) (o := .cells #[.int .i64 t235, .int .i64 t236, .int .i64 t237, .slice Ao21 t238.length co21] 27 (0, 0)) (by (with_reducible repeat (first | refine blk_drewN ?_ _ | refine blk_drew ?_ | refine blk_alloc ?_ _)); exact BK241.out) hb); have n6_ := Aside0.mk (below_step (by repeat (first | (with_reducible first | exact HB.out | apply below_alloc | apply pw_below_drewN | apply below_drew1 | refine below_set ?_ GE241.out) | exact HB.out)) hb); clear HO_15; clear HO_16; clear HO_18; clear HO_242003; clear BK241; clear HB; have HO_15 := n0_; have HO_16 := n1_; have HO_18 := n2_; have HO_242003 := n3_; have HO251 := n4_; have BK241 := n5_; have HB := n6_; clear n0_ n1_ n2_ n3_ n4_ n5_ n6_; (try clear hb); (try clear hb2); (try clear hk); (try clear hi); (try clear ho0); obtain ⟨Ao63, co63, eo63⟩ := Kd.R_slice HO251.out; subst eo63; have p252 : 0 ≤ (x19_2 : Int) := of_decide_eq_true (by first | (with_reducible assumption) | assumption); have q252 : x19_2 < (l4.length : Int) := of_decide_eq_true (by first | (with_reducible assumption) | assumption); obtain ⟨ad252, e252, hx252_0⟩ := Kd.at_int HR4.out x19_2 p252 q252; cases e252; replace hx252_0 := (HB.out.cell (World.block_lt_of_cell? w _ hx252_0)).trans hx252_0; replace p252 := eq_true p252; replace q252 := eq_true q252) | ((with_reducible refine gate_callee (f := 17) rfl ?_); refine goesL_ (some 82) rfl rfl Try.func17 (by kernel_rfl) rfl #[.int .i64 (rd l4 x19_2), .int .i64 (t249.length : Int)] rfl (by (try simp only [List.map_toArray, List.map_cons, List.map_nil]); first | done | rfl | (simp only [List.length_drop, List.length_take]; rfl)) ?_; (with_reducible refine (racewaylaw6_pick.calls (rd l4 x19_2) (t249.length : Int) t253 _ A43.out).mono ?_); rintro e w' ⟨rfl, ⟨nd, rfl⟩⟩; refine ⟨_, rfl, ?_⟩; have p254 : 0 ≤ (t253 : Int) := of_decide_eq_true (by first | (with_reducible assumption) | assumption); have q254 : t253 < (t249.length : Int) := of_decide_eq_true (by first | (with_reducible assumption) | assumption); obtain ⟨ad254, e254, hx254_0⟩ := Kd.at_int (Kd.R_reads' HO251.out).2.2 t253 p254 q254; cases e254; replace p254 := eq_true p254; replace q254 := eq_true q254; have hcz64_0 : w62.cell? ⟨gb241, 0, none⟩ = some (.int .i64 t235) := (blk_cell BK241.out 0).trans rfl; have hcz64_1 : w62.cell? ⟨gb241, 1, none⟩ = some (.int .i64 t236) := (blk_cell BK241.out 1).trans rfl; have hcz64_2 : w62.cell? ⟨gb241, 2, none⟩ = some (.int .i64 t237) := (blk_cell BK241.out 2).trans rfl; have hcz64_3 : w62.cell? ⟨gb241, 3, none⟩ = some (.slice Ao21 t238.length co21) := (blk_cell BK241.out 3).trans rfl; have hfz64_0 := blk_frozen BK241.out 0; have hfz64_1 := blk_frozen BK241.out 1; have hfz64_2 := blk_frozen BK241.out 2; have hfz64_3 := blk_frozen BK241.out 3) | ((with_reducible refine gate_callee (f := 21) rfl ?_); refine goesL_ (some 88) rfl rfl Try.func21 (by kernel_rfl) rfl #[.agg #[.int .i64 t235, .int .i64 t236, .int .i64 t237, .slice Ao21 t238.length co21], .int .i64 (rd t249 t253)] rfl (by (try simp only [List.map_toArray, List.map_cons, List.map_nil]); first | done | rfl | (simp only [List.length_drop, List.length_take]; rfl)) ?_; (with_reducible refine (residual_Ends.calls kj26 t235 t236 t237 _ _ t238 (rd t249 t253) t255 t256 _ ?side1 ?side2 A46.out).mono ?_); (case side1 => repeat (first | exact (Kd.R_reads' HO_242003.out).2.2 | (with_reducible refine Kd.C_alloc ?_ _) | (with_reducible refine Kd.C_drewN ?_ _) | (with_reducible refine Kd.C_drew ?_))); (case side2 => exact (Kd.R_reads' HO_242003.out).2.1); rintro e w65 ⟨rfl, hb⟩; refine ⟨_, rfl, ?_⟩; have n0_ := Aside0.mk (Kd.R_below (by (with_reducible repeat (first | apply Kd.R_alloc | apply Kd.R_drewN | apply Kd.R_drew)); exact HO_15.out) hb); have n1_ := Aside0.mk (Kd.R_below (by (with_reducible repeat (first | apply Kd.R_alloc | apply Kd.R_drewN | apply Kd.R_drew)); exact HO_16.out) hb); have n2_ := Aside0.mk (Kd.R_below (by (with_reducible repeat (first | apply Kd.R_alloc | apply Kd.R_drewN | apply Kd.R_drew)); exact HO_18.out) hb); have n3_ := Aside0.mk (Kd.R_below (by (with_reducible repeat (first | apply Kd.R_alloc | apply Kd.R_drewN | apply Kd.R_drew)); exact HO_242003.out) hb); have n4_ := Aside0.mk (Kd.R_below (by (with_reducible repeat (first | apply Kd.R_alloc | apply Kd.R_drewN | apply Kd.R_drew)); exact HO251.out) hb); have n5_ := Aside0.mk (blk_below (g := gb241) (o := .cells #[.int .i64 t235, .int .i64 t236, .int .i64 t237, .slice Ao21 t238.length co21] 27 (0, 0)) (by (with_reducible repeat (first | refine blk_drewN ?_ _ | refine blk_drew ?_ | refine blk_alloc ?_ _)); exact BK241.out) hb); have n6_ := Aside0.mk (below_step (by repeat (first | (with_reducible first | exact HB.out | apply below_alloc | apply pw_below_drewN | apply below_drew1 | refine below_set ?_ GE241.out) | exact HB.out)) hb); clear HO_15; clear HO_16; clear HO_18; clear HO_242003; clear HO251; clear BK241; clear HB; have HO_15 := n0_; have HO_16 := n1_; have HO_18 := n2_; have HO_242003 := n3_; have HO251 := n4_; have BK241 := n5_; have HB := n6_; clear n0_ n1_ n2_ n3_ n4_ n5_ n6_; (try clear hb); (try clear hb2); (try clear hk); (try clear hi); have p257 : 0 ≤ (t256 : Int) := of_decide_eq_true (by first | (with_reducible assumption) | assumption); have q257 : t256 < (y248.length : Int) := (by have h_ : (t256 : Int) < ((x16_2.length : Int) : Int) := of_decide_eq_true (by first | (with_reducible assumption) | assumption); first | (have e_ := (Kd.R_reads' HO_16.out).1; omega) | simpa only [Ny248.out, List.length_set] using h_); have ql257 : ((t256 : Int) < ((x16_2.length : Int) : Int)) = True := eq_true (of_decide_eq_true (by first | (with_reducible assumption) | assumption)); obtain ⟨ad257, e257, hx257_0⟩ := Kd.at_bool (Kd.R_reads' HO_16.out).2.2 t256 p257 q257; (try rw [← Nbq49.out] at hx257_0); obtain rfl : (⟨go33, 0, none⟩ : Addr) = ad257 := (by injection e257); (first | simp only [add_plain] at hx257_0 | simp only [add_at] at hx257_0 | simp only [Addr.add, Nat.zero_add] at hx257_0 | skip); replace p257 := eq_true p257; replace q257 := eq_true q257) | ((with_reducible refine gate_builtin (b := .append) (xs := #[.tmp 96, .tmp 98]) rfl ?_); (try (refine gate_guard (by rfl) ?_; dsimp only)); at_builtin; refine Kd.R_append (Kd.int .i64) (w0 := w) w.heap.size rfl (.tmp 96) (.tmp 98) 23 3 (.int .i64 0) 8 rfl Try.underlying23 info3 rfl (by decide) (by omega) u18 x18_2 (rd t249 t253) [.int .i64 (rd t249 t253)] (fun k_ => some k_ ≠ (.slice (some ad254) t249.length co63 : Value).ownBlock) (fun _ => False) rfl rfl ?aP (fun _ hk => hk.elim) ?aF ?aO ?aB ?aS ?aL ?_; (case aP => exact rfl); (case aB => exact (by repeat (first | (with_reducible first | exact HB.out | apply below_alloc | apply pw_below_drewN | apply below_drew1 | refine below_set ?_ GE241.out) | exact HB.out))); (case aF => exact (fun k_ hk => Kd.fresh' (Kd.R_lt (by (with_reducible repeat (first | apply Kd.R_alloc | apply Kd.R_drewN | apply Kd.R_drew)); exact HO251.out)) k_ hk)); (case aO => exact (by (with_reducible repeat (first | apply Kd.R_alloc | apply Kd.R_drewN | apply Kd.R_drew)); exact Kd.R_mono HO_18.out (fun _ hk => hk.2))); (case aS => exact (below_size (by repeat (first | (with_reducible first | exact HB.out | apply below_alloc | apply pw_below_drewN | apply below_drew1 | refine below_set ?_ GE241.out) | exact HB.out)))); (case aL => have := LMc58.out; omega); intro v259 w66 ho hb hg hat; rw [← Ny258.out] at ho; have n0_ := Aside0.mk (Kd.R_over' (by (with_reducible repeat (first | apply Kd.R_alloc | apply Kd.R_drewN | apply Kd.R_drew)); exact HO_15.out) (Kd.R_typed (by (with_reducible repeat (first | apply Kd.R_alloc | apply Kd.R_drewN | apply Kd.R_drew)); exact HO_18.out)) (by decide) hg); have n1_ := Aside0.mk (Kd.R_over' (by (with_reducible repeat (first | apply Kd.R_alloc | apply Kd.R_drewN | apply Kd.R_drew)); exact HO_16.out) (Kd.R_typed (by (with_reducible repeat (first | apply Kd.R_alloc | apply Kd.R_drewN | apply Kd.R_drew)); exact HO_18.out)) (by decide) hg); have n2_ := Aside0.mk (Kd.R_over' (by (with_reducible repeat (first | apply Kd.R_alloc | apply Kd.R_drewN | apply Kd.R_drew)); exact HO_242003.out) (Kd.R_typed (by (with_reducible repeat (first | apply Kd.R_alloc | apply Kd.R_drewN | apply Kd.R_drew)); exact HO_18.out)) (by decide) hg); have n3_ := Aside0.mk (blk_grown (g := gb241) (o := .cells #[.int .i64 t235, .int .i64 t236, .int .i64 t237, .slice Ao21 t238.length co21] 27 (0, 0)) (by (with_reducible repeat (first | refine blk_drewN ?_ _ | refine blk_drew ?_ | refine blk_alloc ?_ _)); exact BK241.out) hg (Kd.R_ne HO_18.out BK241.out (by decide))); have n4_ := Aside0.mk (Kd.R_after (ok := (fun _ => True)) (by (with_reducible repeat (first | apply Kd.R_alloc | apply Kd.R_drewN | apply Kd.R_drew)); exact HO251.out) hg hat); have n5_ := Aside0.mk (hb); have n6_ := Aside0.mk (ho); clear HO_15; clear HO_16; clear HO_242003; clear BK241; clear HO251; clear HB; clear HO_18; have HO_15 := n0_; have HO_16 := n1_; have HO_242003 := n2_; have BK241 := n3_; have HO251 := n4_; have HB := n5_; have HO260 := n6_; clear n0_ n1_ n2_ n3_ n4_ n5_ n6_; clear ho hb hg hat))
                       go_roundg kj26
                       case measure => have := HJ7.out; have := HK2.out; have := HJ26.out; omega
                       case rel => exact ⟨(y248), (t256), (y258), (wrap64 (x19_2 + 1)), (by first | rfl | (simp; done) | (simp [*]; done)), (by first | rfl | (simp; done) | (simp [*]; done)), H', ⟨by have := HJ7.out; have := HK2.out; have := HJ26.out; omega⟩, ⟨by (with_reducible repeat (first | apply Kd.R_alloc | apply Kd.R_drewN | apply Kd.R_drew)); exact HO_15.out⟩, ⟨by (with_reducible repeat (first | apply Kd.R_alloc | apply Kd.R_drewN | apply Kd.R_drew)); exact HO_16.out⟩, ⟨by (with_reducible repeat (first | apply Kd.R_alloc | apply Kd.R_drewN | apply Kd.R_drew)); exact Kd.R_mono HO260.out (fun _ hk => trivial)⟩, ⟨by (with_reducible repeat (first | apply Kd.R_alloc | apply Kd.R_drewN | apply Kd.R_drew)); exact HO_242003.out⟩, ⟨by (with_reducible repeat (first | refine blk_drewN ?_ _ | refine blk_drew ?_ | refine blk_alloc ?_ _)); exact BK241.out⟩, ⟨by repeat (first | (with_reducible first | exact HB.out | apply below_alloc | apply pw_below_drewN | apply below_drew1 | refine below_set ?_ GE241.out) | exact HB.out)⟩⟩
                      ·rw [if_neg c58] at H
                       exact absurd H (by simp)
                    ·rw [if_neg c48] at H
                     exact absurd H (by simp)
                   ·rw [if_neg c47] at H
                    exact absurd H (by simp)
                  ·rw [if_neg c45] at H
                   exact absurd H (by simp)
                 ·rw [if_neg c44] at H
                  exact absurd H (by simp)
                ·rw [if_neg c42] at H
                 exact absurd H (by simp)
               ·rw [if_neg c41] at H
                exact absurd H (by simp)
             ·rw [if_neg c32] at H
              exact absurd H (by simp)
            ·rw [if_neg c31] at H
             exact absurd H (by simp)
           ·replace c30 := Bool.eq_false_iff.mpr c30
            subst c30
            have H1 : (racewaylaw6_ResidualSteps.j3 kj26 a5 t242 x18_2 t235 t236 t237 t238) = some r := by rw [if_neg (show ¬ (false = true) by decide)] at H; exact H
            clear H
            have H := H1
            clear H1
            have H' := Aside0.mk H
            clear H
            go_wp2
            go_meet
            case rel => exact ⟨_, (x18_2), H', ⟨by have := HJ7.out; have := HK2.out; have := HJ26.out; first | omega | exact Nat.le_refl _⟩, ⟨by (with_reducible repeat (first | apply Kd.R_alloc | apply Kd.R_drewN | apply Kd.R_drew)); exact HO_15.out⟩, ⟨by (with_reducible repeat (first | apply Kd.R_alloc | apply Kd.R_drewN | apply Kd.R_drew)); exact HO_18.out⟩, ⟨by (with_reducible repeat (first | apply Kd.R_alloc | apply Kd.R_drewN | apply Kd.R_drew)); exact HO_242003.out⟩, ⟨by (with_reducible repeat (first | refine blk_drewN ?_ _ | refine blk_drew ?_ | refine blk_alloc ?_ _)); exact BK241.out⟩, ⟨by repeat (first | (with_reducible first | exact HB.out | apply below_alloc | apply pw_below_drewN | apply below_drew1 | refine below_set ?_ GE241.out) | exact HB.out)⟩⟩
      case rest =>
       clear HC17
       try clear c1
       try clear c2
       try clear p2
       try clear q2
       try clear hx2
       try clear c3
       try clear p3
       try clear q3
       try clear hx3
       try clear c4
       try clear q4
       try clear c5
       try clear p6
       try clear c7
       try clear c10
       try clear c11
       try clear c14
       try clear c15
       try clear c15b0
       try clear c15b1
       try clear c16
       try clear c16b0
       try clear c16b1
       try clear c17
       try clear c20
       try clear c21
       try clear p25
       try clear q25
       try clear hx25
       try clear c28
       try clear c28b0
       try clear c30
       try clear c31
       try clear c31b0
       try clear c32
       try clear c32b0
       try clear p33
       try clear q33
       try clear hx33
       try clear hf33
       try clear c35
       try clear c35b0
       try clear c35b1
       try clear c35b2
       try clear c41
       try clear c41b0
       try clear c42
       try clear c42b0
       try clear c44
       try clear c44b0
       try clear c45
       try clear c45b0
       try clear c47
       try clear c47b0
       try clear c48
       try clear c48b0
       try clear q49
       try clear c50
       try clear c58
       try clear p64
       try clear hcz20_0
       try clear hcz20_1
       try clear hcz20_2
       try clear hcz20_3
       try clear hcz23_0
       try clear hcz23_1
       try clear hcz23_2
       try clear hcz23_3
       try clear hcz26_0
       try clear hcz26_1
       try clear hcz26_2
       try clear hcz26_3
       try clear hcz29_0
       try clear hcz29_1
       try clear hcz29_2
       try clear hcz29_3
       try clear hcz38_0
       try clear hcz38_1
       try clear hcz38_2
       try clear hcz38_3
       try clear hcz53_0
       try clear hcz53_1
       try clear hcz53_2
       try clear hcz53_3
       try clear hcz56_0
       try clear hcz56_1
       try clear hcz56_2
       try clear hcz56_3
       try clear hcz61_0
       try clear hcz61_1
       try clear hcz61_2
       try clear hcz61_3
       try clear hcz64_0
       try clear hcz64_1
       try clear hcz64_2
       try clear hcz64_3
       try clear hfz20_0
       try clear hfz20_1
       try clear hfz20_2
       try clear hfz20_3
       try clear hfz23_0
       try clear hfz23_1
       try clear hfz23_2
       try clear hfz23_3
       try clear hfz26_0
       try clear hfz26_1
       try clear hfz26_2
       try clear hfz26_3
       try clear hfz29_0
       try clear hfz29_1
       try clear hfz29_2
       try clear hfz29_3
       try clear hfz38_0
       try clear hfz38_1
       try clear hfz38_2
       try clear hfz38_3
       try clear hfz53_0
       try clear hfz53_1
       try clear hfz53_2
       try clear hfz53_3
       try clear hfz56_0
       try clear hfz56_1
       try clear hfz56_2
       try clear hfz56_3
       try clear hfz61_0
       try clear hfz61_1
       try clear hfz61_2
       try clear hfz61_3
       try clear hfz64_0
       try clear hfz64_1
       try clear hfz64_2
       try clear hfz64_3
       try clear hx252_0
       try clear hx254_0
       try clear hx257_0
       try clear hx33_0
       try clear p2
       try clear p252
       try clear p254
       try clear p257
       try clear p33
       try clear p6
       try clear q252
       try clear q254
       try clear q257
       try clear q33
       obtain ⟨kq, x18_16, HA, HJ16, HO_15, HO_18, HO_242003, BK241, HB⟩ := hcut
       cases kq with
       | zero => exact absurd HA.out (by simp [racewaylaw6_ResidualSteps.j3])
       | succ kj16 =>
        have H := HA.out
        clear HA
        simp only [racewaylaw6_ResidualSteps.j3] at H
        replace H := Option.bind_eq_some_iff.mp H
        obtain ⟨t261, A670, H⟩ := H
        replace H : ((residual_Push.f kj16 t235 t236 t237 t238 t242 x18_16 (wrap64 (1 + t261))).bind fun bt262 => (racewaylaw6_ResidualSteps.l1 kj16 x18_16 (wrap64 (1 + t261)) bt262.1 bt262.2 t242 0 0 t235 t236 t237 t238)) = some r := H
        have A67 := Aside0.mk A670
        clear A670
        replace H := Option.bind_eq_some_iff.mp H
        obtain ⟨⟨t262, t265⟩, A680, H⟩ := H
        replace H : (racewaylaw6_ResidualSteps.l1 kj16 x18_16 (wrap64 (1 + t261)) t262 t265 t242 0 0 t235 t236 t237 t238) = some r := H
        have A68 := Aside0.mk A680
        clear A680
        have H' := Aside0.mk H
        clear H
        go_wp2_with (first | ((with_reducible refine gate_callee (f := 17) rfl ?_); refine goesL_ (some 102) rfl rfl Try.func17 (by kernel_rfl) rfl #[.int .i64 a5, .int .i64 12] rfl (by (try simp only [List.map_toArray, List.map_cons, List.map_nil]); first | done | rfl | (simp only [List.length_drop, List.length_take]; rfl)) ?_; (with_reducible refine (racewaylaw6_pick.calls a5 12 t261 _ A67.out).mono ?_); rintro e w' ⟨rfl, ⟨nd, rfl⟩⟩; refine ⟨_, rfl, ?_⟩; have hcz69_0 : wc.cell? ⟨gb241, 0, none⟩ = some (.int .i64 t235) := (blk_cell BK241.out 0).trans rfl; have hcz69_1 : wc.cell? ⟨gb241, 1, none⟩ = some (.int .i64 t236) := (blk_cell BK241.out 1).trans rfl; have hcz69_2 : wc.cell? ⟨gb241, 2, none⟩ = some (.int .i64 t237) := (blk_cell BK241.out 2).trans rfl; have hcz69_3 : wc.cell? ⟨gb241, 3, none⟩ = some (.slice Ao21 t238.length co21) := (blk_cell BK241.out 3).trans rfl; have hfz69_0 := blk_frozen BK241.out 0; have hfz69_1 := blk_frozen BK241.out 1; have hfz69_2 := blk_frozen BK241.out 2; have hfz69_3 := blk_frozen BK241.out 3; obtain ⟨Ao70, co70, eo70⟩ := Kd.R_slice HO_15.out; subst eo70; obtain ⟨Ao71, co71, eo71⟩ := Kd.R_slice HO_18.out; subst eo71) | ((with_reducible refine gate_callee (f := 28) rfl ?_); refine goesL_ (some 109) rfl rfl Try.func28 (by kernel_rfl) rfl #[.agg #[.int .i64 t235, .int .i64 t236, .int .i64 t237, .slice Ao21 t238.length co21], .slice Ao70 t242.length co70, .slice Ao71 x18_16.length co71, .int .i64 (wrap64 (1 + t261))] rfl (by (try simp only [List.map_toArray, List.map_cons, List.map_nil]); first | done | rfl | (simp only [List.length_drop, List.length_take]; rfl)) ?_; (with_reducible refine (residual_Push.calls kj16 t235 t236 t237 _ _ t238 _ _ t242 _ _ x18_16 (wrap64 (1 + t261)) t262 t265 _ ?side1 ?side2 ?side3 ?side4 ?side5 ?side6 A68.out).mono ?_); (case side1 => repeat (first | exact (Kd.R_reads' HO_242003.out).2.2 | (with_reducible refine Kd.C_alloc ?_ _) | (with_reducible refine Kd.C_drewN ?_ _) | (with_reducible refine Kd.C_drew ?_))); (case side2 => exact (Kd.R_reads' HO_242003.out).2.1); (case side3 => repeat (first | exact (Kd.R_reads' HO_15.out).2.2 | (with_reducible refine Kd.C_alloc ?_ _) | (with_reducible refine Kd.C_drewN ?_ _) | (with_reducible refine Kd.C_drew ?_))); (case side4 => exact (Kd.R_reads' HO_15.out).2.1); (case side5 => repeat (first | exact (Kd.R_reads' HO_18.out).2.2 | (with_reducible refine Kd.C_alloc ?_ _) | (with_reducible refine Kd.C_drewN ?_ _) | (with_reducible refine Kd.C_drew ?_))); (case side6 => exact (Kd.R_reads' HO_18.out).2.1); rintro e w72 ⟨v263, rfl, ho0, hb⟩; refine ⟨_, rfl, ?_⟩; have n0_ := Aside0.mk (Kd.R_elder' (by (with_reducible repeat (first | apply Kd.R_alloc | apply Kd.R_drewN | apply Kd.R_drew)); exact HO_15.out) (Kd.R_base ho0) hb); have n1_ := Aside0.mk (Kd.R_below (by (with_reducible repeat (first | apply Kd.R_alloc | apply Kd.R_drewN | apply Kd.R_drew)); exact HO_18.out) hb); have n2_ := Aside0.mk (Kd.R_below (by (with_reducible repeat (first | apply Kd.R_alloc | apply Kd.R_drewN | apply Kd.R_drew)); exact HO_242003.out) hb); have n3_ := Aside0.mk (Kd.R_lower (Kd.R_new' ho0 (Kd.R_lt (by (with_reducible repeat (first | apply Kd.R_alloc | apply Kd.R_drewN | apply Kd.R_drew)); exact HO_15.out))) (below_size (by repeat (first | (with_reducible first | exact HB.out | apply below_alloc | apply pw_below_drewN | apply below_drew1 | refine below_set ?_ GE241.out) | exact HB.out)))); have n4_ := Aside0.mk (blk_below (g := gb241) (o := .cells #[.int .i64 t235, .int .i64 t236, .int .i64 t237, .slice Ao21 t238.length co21] 27 (0, 0)) (by (with_reducible repeat (first | refine blk_drewN ?_ _ | refine blk_drew ?_ | refine blk_alloc ?_ _)); exact BK241.out) hb); have n5_ := Aside0.mk (below_step (by repeat (first | (with_reducible first | exact HB.out | apply below_alloc | apply pw_below_drewN | apply below_drew1 | refine below_set ?_ GE241.out) | exact HB.out)) hb); clear HO_15; clear HO_18; clear HO_242003; clear BK241; clear HB; have HO_15 := n0_; have HO_18 := n1_; have HO_242003 := n2_; have HO264 := n3_; have BK241 := n4_; have HB := n5_; clear n0_ n1_ n2_ n3_ n4_ n5_; (try clear hb); (try clear hb2); (try clear hk); (try clear hi); (try clear ho0)))
        go_loopg [27, 28, 29] kj16 (fun kq v27 v28 v29 w' => ∃ (x27_3 : List Int) (x28_3 : Int) (x29_3 : Int), v28 = .int .i64 x28_3 ∧ v29 = .int .i64 x29_3 ∧ Aside0 (racewaylaw6_ResidualSteps.l1 kq x18_16 (wrap64 (1 + t261)) t262 t265 x27_3 x28_3 x29_3 t235 t236 t237 t238 = some r) ∧ Aside0 (kq ≤ kj16) ∧ Aside0 (Kd.R (Kd.int .i64) 3 w' w.heap.size (fun _ => True) (.slice Ao71 x18_16.length co71) x18_16) ∧ Aside0 (Kd.R (Kd.int .i64) 2 w' w.heap.size (fun k_ => some k_ ≠ (v27 : Value).ownBlock) v263 t262) ∧ Aside0 (Kd.R (Kd.int .i64) 2 w' w.heap.size (fun k_ => some k_ ≠ (v263 : Value).ownBlock) v27 x27_3) ∧ Aside0 (Kd.R k49 49 w' w.heap.size (fun _ => True) (.slice Ao21 t238.length co21) t238) ∧ Aside0 (w'.heap[gb241]? = some (.cells #[.int .i64 t235, .int .i64 t236, .int .i64 t237, (.slice Ao21 t238.length co21)] 27 (0, 0))) ∧ Aside0 (Below w.heap.size w w'))
        case atStart => exact ⟨(t242), (0), (0), (by first | rfl | (simp; done) | (simp [*]; done)), (by first | rfl | (simp; done) | (simp [*]; done)), H', ⟨Nat.le_refl _⟩, ⟨by (with_reducible repeat (first | apply Kd.R_alloc | apply Kd.R_drewN | apply Kd.R_drew)); exact HO_18.out⟩, ⟨by (with_reducible repeat (first | apply Kd.R_alloc | apply Kd.R_drewN | apply Kd.R_drew)); exact Kd.R_mono HO264.out (fun _ hk => hk.2)⟩, ⟨by (with_reducible repeat (first | apply Kd.R_alloc | apply Kd.R_drewN | apply Kd.R_drew)); exact Kd.R_mono HO_15.out (fun _ hk => hk.2)⟩, ⟨by (with_reducible repeat (first | apply Kd.R_alloc | apply Kd.R_drewN | apply Kd.R_drew)); exact HO_242003.out⟩, ⟨by (with_reducible repeat (first | refine blk_drewN ?_ _ | refine blk_drew ?_ | refine blk_alloc ?_ _)); exact BK241.out⟩, ⟨by repeat (first | (with_reducible first | exact HB.out | apply below_alloc | apply pw_below_drewN | apply below_drew1 | refine below_set ?_ GE241.out) | exact HB.out)⟩⟩
        case round =>
         clear H'
         try clear c1
         try clear c2
         try clear p2
         try clear q2
         try clear hx2
         try clear c3
         try clear p3
         try clear q3
         try clear hx3
         try clear c4
         try clear q4
         try clear c5
         try clear p6
         try clear c7
         try clear c10
         try clear c11
         try clear c14
         try clear c15
         try clear c15b0
         try clear c15b1
         try clear c16
         try clear c16b0
         try clear c16b1
         try clear c17
         try clear c20
         try clear c21
         try clear p25
         try clear q25
         try clear hx25
         try clear c28
         try clear c28b0
         try clear c30
         try clear c31
         try clear c31b0
         try clear c32
         try clear c32b0
         try clear p33
         try clear q33
         try clear hx33
         try clear hf33
         try clear c35
         try clear c35b0
         try clear c35b1
         try clear c35b2
         try clear c41
         try clear c41b0
         try clear c42
         try clear c42b0
         try clear c44
         try clear c44b0
         try clear c45
         try clear c45b0
         try clear c47
         try clear c47b0
         try clear c48
         try clear c48b0
         try clear q49
         try clear c50
         try clear c58
         try clear p64
         try clear hcz20_0
         try clear hcz20_1
         try clear hcz20_2
         try clear hcz20_3
         try clear hcz23_0
         try clear hcz23_1
         try clear hcz23_2
         try clear hcz23_3
         try clear hcz26_0
         try clear hcz26_1
         try clear hcz26_2
         try clear hcz26_3
         try clear hcz29_0
         try clear hcz29_1
         try clear hcz29_2
         try clear hcz29_3
         try clear hcz38_0
         try clear hcz38_1
         try clear hcz38_2
         try clear hcz38_3
         try clear hcz53_0
         try clear hcz53_1
         try clear hcz53_2
         try clear hcz53_3
         try clear hcz56_0
         try clear hcz56_1
         try clear hcz56_2
         try clear hcz56_3
         try clear hcz61_0
         try clear hcz61_1
         try clear hcz61_2
         try clear hcz61_3
         try clear hcz64_0
         try clear hcz64_1
         try clear hcz64_2
         try clear hcz64_3
         try clear hcz69_0
         try clear hcz69_1
         try clear hcz69_2
         try clear hcz69_3
         try clear hfz20_0
         try clear hfz20_1
         try clear hfz20_2
         try clear hfz20_3
         try clear hfz23_0
         try clear hfz23_1
         try clear hfz23_2
         try clear hfz23_3
         try clear hfz26_0
         try clear hfz26_1
         try clear hfz26_2
         try clear hfz26_3
         try clear hfz29_0
         try clear hfz29_1
         try clear hfz29_2
         try clear hfz29_3
         try clear hfz38_0
         try clear hfz38_1
         try clear hfz38_2
         try clear hfz38_3
         try clear hfz53_0
         try clear hfz53_1
         try clear hfz53_2
         try clear hfz53_3
         try clear hfz56_0
         try clear hfz56_1
         try clear hfz56_2
         try clear hfz56_3
         try clear hfz61_0
         try clear hfz61_1
         try clear hfz61_2
         try clear hfz61_3
         try clear hfz64_0
         try clear hfz64_1
         try clear hfz64_2
         try clear hfz64_3
         try clear hfz69_0
         try clear hfz69_1
         try clear hfz69_2
         try clear hfz69_3
         try clear hx252_0
         try clear hx254_0
         try clear hx257_0
         try clear hx33_0
         try clear p2
         try clear p25
         try clear p252
         try clear p254
         try clear p257
         try clear p3
         try clear p33
         try clear p6
         try clear p64
         try clear q2
         try clear q25
         try clear q252
         try clear q254
         try clear q257
         try clear q3
         try clear q33
         try clear q4
         try clear q49
         obtain ⟨x27_3, x28_3, x29_3, rfl, rfl, HA, HK3, HO_18, HO_25, HO_27, HO_242003, BK241, HB⟩ := hrel
         cases gk with
         | zero => exact absurd HA.out (by simp [racewaylaw6_ResidualSteps.l1])
         | succ k3 =>
          have H := HA.out
          clear HA
          simp only [racewaylaw6_ResidualSteps.l1] at H
          have HC73 := Aside0.mk H
          clear H
          go_upto_region 25 with (fail)
          go_cut [119] (fun v119 wc => ∃ (kq : Nat) (x119_72 : Bool), v119 = .bool x119_72 ∧ Aside0 (racewaylaw6_ResidualSteps.j5 kq x18_16 (wrap64 (1 + t261)) t262 t265 x27_3 x28_3 x29_3 x119_72 t235 t236 t237 t238 = some r) ∧ Aside0 (kq ≤ k3) ∧ Aside0 (Kd.R (Kd.int .i64) 3 wc w.heap.size (fun _ => True) (.slice Ao71 x18_16.length co71) x18_16) ∧ Aside0 (Kd.R (Kd.int .i64) 2 wc w.heap.size (fun k_ => some k_ ≠ (u27 : Value).ownBlock) v263 t262) ∧ Aside0 (Kd.R (Kd.int .i64) 2 wc w.heap.size (fun k_ => some k_ ≠ (v263 : Value).ownBlock) u27 x27_3) ∧ Aside0 (Kd.R k49 49 wc w.heap.size (fun _ => True) (.slice Ao21 t238.length co21) t238) ∧ Aside0 (wc.heap[gb241]? = some (.cells #[.int .i64 t235, .int .i64 t236, .int .i64 t237, (.slice Ao21 t238.length co21)] 27 (0, 0))) ∧ Aside0 (Below w.heap.size w wc))
          case first =>
           have H := HC73.out
           clear HC73
           by_cases c74 : x29_3 < (wrap64 (1 + t261))
           ·rw [if_pos c74] at H
            have c74b0 : decide (x29_3 < (wrap64 (1 + t261))) = true := decide_eq_true c74
            clear c74
            (first | rw [c74b0] | (simp only [i64_w, i32_w]; rw [c74b0]) | skip)
            have H' := Aside0.mk H
            clear H
            go_wp2
            go_meet
            case rel => exact ⟨_, ((x28_3 == 0)), (by first | rfl | (simp; done) | (simp [*]; done)), H', ⟨by have := HJ7.out; have := HJ16.out; have := HK3.out; first | omega | exact Nat.le_refl _⟩, ⟨by (with_reducible repeat (first | apply Kd.R_alloc | apply Kd.R_drewN | apply Kd.R_drew)); exact HO_18.out⟩, ⟨by (with_reducible repeat (first | apply Kd.R_alloc | apply Kd.R_drewN | apply Kd.R_drew)); exact HO_25.out⟩, ⟨by (with_reducible repeat (first | apply Kd.R_alloc | apply Kd.R_drewN | apply Kd.R_drew)); exact HO_27.out⟩, ⟨by (with_reducible repeat (first | apply Kd.R_alloc | apply Kd.R_drewN | apply Kd.R_drew)); exact HO_242003.out⟩, ⟨by (with_reducible repeat (first | refine blk_drewN ?_ _ | refine blk_drew ?_ | refine blk_alloc ?_ _)); exact BK241.out⟩, ⟨by repeat (first | (with_reducible first | exact HB.out | apply below_alloc | apply pw_below_drewN | apply below_drew1 | refine below_set ?_ GE241.out) | exact HB.out)⟩⟩
           ·rw [if_neg c74] at H
            have c74b0 : decide (x29_3 < (wrap64 (1 + t261))) = false := decide_eq_false c74
            clear c74
            (first | rw [c74b0] | (simp only [i64_w, i32_w]; rw [c74b0]) | skip)
            have H' := Aside0.mk H
            clear H
            go_wp2
            go_meet
            case rel => exact ⟨_, (false), (by first | rfl | (simp; done) | (simp [*]; done)), H', ⟨by have := HJ7.out; have := HJ16.out; have := HK3.out; first | omega | exact Nat.le_refl _⟩, ⟨by (with_reducible repeat (first | apply Kd.R_alloc | apply Kd.R_drewN | apply Kd.R_drew)); exact HO_18.out⟩, ⟨by (with_reducible repeat (first | apply Kd.R_alloc | apply Kd.R_drewN | apply Kd.R_drew)); exact HO_25.out⟩, ⟨by (with_reducible repeat (first | apply Kd.R_alloc | apply Kd.R_drewN | apply Kd.R_drew)); exact HO_27.out⟩, ⟨by (with_reducible repeat (first | apply Kd.R_alloc | apply Kd.R_drewN | apply Kd.R_drew)); exact HO_242003.out⟩, ⟨by (with_reducible repeat (first | refine blk_drewN ?_ _ | refine blk_drew ?_ | refine blk_alloc ?_ _)); exact BK241.out⟩, ⟨by repeat (first | (with_reducible first | exact HB.out | apply below_alloc | apply pw_below_drewN | apply below_drew1 | refine below_set ?_ GE241.out) | exact HB.out)⟩⟩
          case rest =>
           clear HC73
           try clear c1
           try clear c2
           try clear p2
           try clear q2
           try clear hx2
           try clear c3
           try clear p3
           try clear q3
           try clear hx3
           try clear c4
           try clear q4
           try clear c5
           try clear p6
           try clear c7
           try clear c10
           try clear c11
           try clear c14
           try clear c15
           try clear c15b0
           try clear c15b1
           try clear c16
           try clear c16b0
           try clear c16b1
           try clear c17
           try clear c20
           try clear c21
           try clear p25
           try clear q25
           try clear hx25
           try clear c28
           try clear c28b0
           try clear c30
           try clear c31
           try clear c31b0
           try clear c32
           try clear c32b0
           try clear p33
           try clear q33
           try clear hx33
           try clear hf33
           try clear c35
           try clear c35b0
           try clear c35b1
           try clear c35b2
           try clear c41
           try clear c41b0
           try clear c42
           try clear c42b0
           try clear c44
           try clear c44b0
           try clear c45
           try clear c45b0
           try clear c47
           try clear c47b0
           try clear c48
           try clear c48b0
           try clear q49
           try clear c50
           try clear c58
           try clear p64
           try clear c74
           try clear c74b0
           try clear hcz20_0
           try clear hcz20_1
           try clear hcz20_2
           try clear hcz20_3
           try clear hcz23_0
           try clear hcz23_1
           try clear hcz23_2
           try clear hcz23_3
           try clear hcz26_0
           try clear hcz26_1
           try clear hcz26_2
           try clear hcz26_3
           try clear hcz29_0
           try clear hcz29_1
           try clear hcz29_2
           try clear hcz29_3
           try clear hcz38_0
           try clear hcz38_1
           try clear hcz38_2
           try clear hcz38_3
           try clear hcz53_0
           try clear hcz53_1
           try clear hcz53_2
           try clear hcz53_3
           try clear hcz56_0
           try clear hcz56_1
           try clear hcz56_2
           try clear hcz56_3
           try clear hcz61_0
           try clear hcz61_1
           try clear hcz61_2
           try clear hcz61_3
           try clear hcz64_0
           try clear hcz64_1
           try clear hcz64_2
           try clear hcz64_3
           try clear hcz69_0
           try clear hcz69_1
           try clear hcz69_2
           try clear hcz69_3
           try clear hfz20_0
           try clear hfz20_1
           try clear hfz20_2
           try clear hfz20_3
           try clear hfz23_0
           try clear hfz23_1
           try clear hfz23_2
           try clear hfz23_3
           try clear hfz26_0
           try clear hfz26_1
           try clear hfz26_2
           try clear hfz26_3
           try clear hfz29_0
           try clear hfz29_1
           try clear hfz29_2
           try clear hfz29_3
           try clear hfz38_0
           try clear hfz38_1
           try clear hfz38_2
           try clear hfz38_3
           try clear hfz53_0
           try clear hfz53_1
           try clear hfz53_2
           try clear hfz53_3
           try clear hfz56_0
           try clear hfz56_1
           try clear hfz56_2
           try clear hfz56_3
           try clear hfz61_0
           try clear hfz61_1
           try clear hfz61_2
           try clear hfz61_3
           try clear hfz64_0
           try clear hfz64_1
           try clear hfz64_2
           try clear hfz64_3
           try clear hfz69_0
           try clear hfz69_1
           try clear hfz69_2
           try clear hfz69_3
           try clear hx252_0
           try clear hx254_0
           try clear hx257_0
           try clear hx33_0
           try clear p2
           try clear p25
           try clear p252
           try clear p254
           try clear p257
           try clear p3
           try clear p33
           try clear p6
           try clear p64
           try clear q2
           try clear q25
           try clear q252
           try clear q254
           try clear q257
           try clear q3
           try clear q33
           try clear q4
           try clear q49
           obtain ⟨kq, x119_72, rfl, HA, HJ72, HO_18, HO_25, HO_27, HO_242003, BK241, HB⟩ := hcut
           cases kq with
           | zero => exact absurd HA.out (by simp [racewaylaw6_ResidualSteps.j5])
           | succ kj72 =>
            have H := HA.out
            clear HA
            simp only [racewaylaw6_ResidualSteps.j5] at H
            by_cases c75 : x119_72 = true
            ·subst c75
             have H1 : ((residual_Push.f kj72 t235 t236 t237 t238 x27_3 x18_16 1).bind fun bt266 => (if bt266.2 = 0 then (racewaylaw6_ResidualSteps.l1 kj72 x18_16 (wrap64 (1 + t261)) t262 t265 bt266.1 bt266.2 (wrap64 (x29_3 + 1)) t235 t236 t237 t238) else (racewaylaw6_ResidualSteps.l1 kj72 x18_16 (wrap64 (1 + t261)) t262 t265 x27_3 bt266.2 (wrap64 (x29_3 + 1)) t235 t236 t237 t238))) = some r := by rw [if_pos rfl] at H; exact H
             clear H
             have H := H1
             clear H1
             replace H := Option.bind_eq_some_iff.mp H
             obtain ⟨⟨t266, t269⟩, A760, H⟩ := H
             replace H : (if t269 = 0 then (racewaylaw6_ResidualSteps.l1 kj72 x18_16 (wrap64 (1 + t261)) t262 t265 t266 t269 (wrap64 (x29_3 + 1)) t235 t236 t237 t238) else (racewaylaw6_ResidualSteps.l1 kj72 x18_16 (wrap64 (1 + t261)) t262 t265 x27_3 t269 (wrap64 (x29_3 + 1)) t235 t236 t237 t238)) = some r := H
             have A76 := Aside0.mk A760
             clear A760
             by_cases c77 : t269 = 0
             ·rw [if_pos c77] at H
              have c77b0 : (t269 == 0) = true := beq_iff_eq.mpr c77
              have c77b1 : (t269 != 0) = false := bne_eq_false_iff_eq.mpr c77
              clear c77
              have H' := Aside0.mk H
              clear H
              have hcz78_0 : wc.cell? ⟨gb241, 0, none⟩ = some (.int .i64 t235) := (blk_cell BK241.out 0).trans rfl
              have hcz78_1 : wc.cell? ⟨gb241, 1, none⟩ = some (.int .i64 t236) := (blk_cell BK241.out 1).trans rfl
              have hcz78_2 : wc.cell? ⟨gb241, 2, none⟩ = some (.int .i64 t237) := (blk_cell BK241.out 2).trans rfl
              have hcz78_3 : wc.cell? ⟨gb241, 3, none⟩ = some (.slice Ao21 t238.length co21) := (blk_cell BK241.out 3).trans rfl
              have hfz78_0 := blk_frozen BK241.out 0
              have hfz78_1 := blk_frozen BK241.out 1
              have hfz78_2 := blk_frozen BK241.out 2
              have hfz78_3 := blk_frozen BK241.out 3
              obtain ⟨Ao79, co79, eo79⟩ := Kd.R_slice HO_27.out
              subst eo79
              go_wp2_with (first | ((with_reducible refine gate_callee (f := 28) rfl ?_); refine goesL_ (some 126) rfl rfl Try.func28 (by kernel_rfl) rfl #[.agg #[.int .i64 t235, .int .i64 t236, .int .i64 t237, .slice Ao21 t238.length co21], .slice Ao79 x27_3.length co79, .slice Ao71 x18_16.length co71, .int .i64 1] rfl (by (try simp only [List.map_toArray, List.map_cons, List.map_nil]); first | done | rfl | (simp only [List.length_drop, List.length_take]; rfl)) ?_; (with_reducible refine (residual_Push.calls kj72 t235 t236 t237 _ _ t238 _ _ x27_3 _ _ x18_16 1 t266 t269 _ ?side1 ?side2 ?side3 ?side4 ?side5 ?side6 A76.out).mono ?_); (case side1 => repeat (first | exact (Kd.R_reads' HO_242003.out).2.2 | (with_reducible refine Kd.C_alloc ?_ _) | (with_reducible refine Kd.C_drewN ?_ _) | (with_reducible refine Kd.C_drew ?_))); (case side2 => exact (Kd.R_reads' HO_242003.out).2.1); (case side3 => repeat (first | exact (Kd.R_reads' HO_27.out).2.2 | (with_reducible refine Kd.C_alloc ?_ _) | (with_reducible refine Kd.C_drewN ?_ _) | (with_reducible refine Kd.C_drew ?_))); (case side4 => exact (Kd.R_reads' HO_27.out).2.1); (case side5 => repeat (first | exact (Kd.R_reads' HO_18.out).2.2 | (with_reducible refine Kd.C_alloc ?_ _) | (with_reducible refine Kd.C_drewN ?_ _) | (with_reducible refine Kd.C_drew ?_))); (case side6 => exact (Kd.R_reads' HO_18.out).2.1); rintro e w80 ⟨v267, rfl, ho0, hb⟩; refine ⟨_, rfl, ?_⟩; have n0_ := Aside0.mk (Kd.R_below (by (with_reducible repeat (first | apply Kd.R_alloc | apply Kd.R_drewN | apply Kd.R_drew)); exact HO_18.out) hb); have n1_ := Aside0.mk (Kd.R_elder' (by (with_reducible repeat (first | apply Kd.R_alloc | apply Kd.R_drewN | apply Kd.R_drew)); exact HO_25.out) (Kd.R_base ho0) hb); have n2_ := Aside0.mk (Kd.R_elder' (by (with_reducible repeat (first | apply Kd.R_alloc | apply Kd.R_drewN | apply Kd.R_drew)); exact HO_27.out) (Kd.R_base ho0) hb); have n3_ := Aside0.mk (Kd.R_below (by (with_reducible repeat (first | apply Kd.R_alloc | apply Kd.R_drewN | apply Kd.R_drew)); exact HO_242003.out) hb); have n4_ := Aside0.mk (Kd.R_lower (Kd.R_new' (Kd.R_new' ho0 (Kd.R_lt (by (with_reducible repeat (first | apply Kd.R_alloc | apply Kd.R_drewN | apply Kd.R_drew)); exact HO_25.out))) (Kd.R_lt (by (with_reducible repeat (first | apply Kd.R_alloc | apply Kd.R_drewN | apply Kd.R_drew)); exact HO_27.out))) (below_size (by repeat (first | (with_reducible first | exact HB.out | apply below_alloc | apply pw_below_drewN | apply below_drew1 | refine below_set ?_ GE241.out) | exact HB.out)))); have n5_ := Aside0.mk (blk_below (g := gb241) (o := .cells #[.int .i64 t235, .int .i64 t236, .int .i64 t237, .slice Ao21 t238.length co21] 27 (0, 0)) (by (with_reducible repeat (first | refine blk_drewN ?_ _ | refine blk_drew ?_ | refine blk_alloc ?_ _)); exact BK241.out) hb); have n6_ := Aside0.mk (below_step (by repeat (first | (with_reducible first | exact HB.out | apply below_alloc | apply pw_below_drewN | apply below_drew1 | refine below_set ?_ GE241.out) | exact HB.out)) hb); clear HO_18; clear HO_25; clear HO_27; clear HO_242003; clear BK241; clear HB; have HO_18 := n0_; have HO_25 := n1_; have HO_27 := n2_; have HO_242003 := n3_; have HO268 := n4_; have BK241 := n5_; have HB := n6_; clear n0_ n1_ n2_ n3_ n4_ n5_ n6_; (try clear hb); (try clear hb2); (try clear hk); (try clear hi); (try clear ho0)))
              go_roundg kj72
              case measure => have := HJ7.out; have := HJ16.out; have := HK3.out; have := HJ72.out; omega
              case rel => exact ⟨(t266), (t269), (wrap64 (x29_3 + 1)), (by first | rfl | (simp; done) | (simp [*]; done)), (by first | rfl | (simp; done) | (simp [*]; done)), H', ⟨by have := HJ7.out; have := HJ16.out; have := HK3.out; have := HJ72.out; omega⟩, ⟨by (with_reducible repeat (first | apply Kd.R_alloc | apply Kd.R_drewN | apply Kd.R_drew)); exact HO_18.out⟩, ⟨by (with_reducible repeat (first | apply Kd.R_alloc | apply Kd.R_drewN | apply Kd.R_drew)); exact Kd.R_mono HO_25.out (fun _ hk => hk.2)⟩, ⟨by (with_reducible repeat (first | apply Kd.R_alloc | apply Kd.R_drewN | apply Kd.R_drew)); exact Kd.R_mono HO268.out (fun _ hk => hk.1.2)⟩, ⟨by (with_reducible repeat (first | apply Kd.R_alloc | apply Kd.R_drewN | apply Kd.R_drew)); exact HO_242003.out⟩, ⟨by (with_reducible repeat (first | refine blk_drewN ?_ _ | refine blk_drew ?_ | refine blk_alloc ?_ _)); exact BK241.out⟩, ⟨by repeat (first | (with_reducible first | exact HB.out | apply below_alloc | apply pw_below_drewN | apply below_drew1 | refine below_set ?_ GE241.out) | exact HB.out)⟩⟩
             ·rw [if_neg c77] at H
              have c77b0 : (t269 == 0) = false := beq_eq_false_iff_ne.mpr c77
              have c77b1 : (t269 != 0) = true := bne_iff_ne.mpr c77
              have H' := Aside0.mk H
              clear H
              have hcz81_0 : wc.cell? ⟨gb241, 0, none⟩ = some (.int .i64 t235) := (blk_cell BK241.out 0).trans rfl
              have hcz81_1 : wc.cell? ⟨gb241, 1, none⟩ = some (.int .i64 t236) := (blk_cell BK241.out 1).trans rfl
              have hcz81_2 : wc.cell? ⟨gb241, 2, none⟩ = some (.int .i64 t237) := (blk_cell BK241.out 2).trans rfl
              have hcz81_3 : wc.cell? ⟨gb241, 3, none⟩ = some (.slice Ao21 t238.length co21) := (blk_cell BK241.out 3).trans rfl
              have hfz81_0 := blk_frozen BK241.out 0
              have hfz81_1 := blk_frozen BK241.out 1
              have hfz81_2 := blk_frozen BK241.out 2
              have hfz81_3 := blk_frozen BK241.out 3
              obtain ⟨Ao82, co82, eo82⟩ := Kd.R_slice HO_27.out
              subst eo82
              go_wp2_with (first | ((with_reducible refine gate_callee (f := 28) rfl ?_); refine goesL_ (some 126) rfl rfl Try.func28 (by kernel_rfl) rfl #[.agg #[.int .i64 t235, .int .i64 t236, .int .i64 t237, .slice Ao21 t238.length co21], .slice Ao82 x27_3.length co82, .slice Ao71 x18_16.length co71, .int .i64 1] rfl (by (try simp only [List.map_toArray, List.map_cons, List.map_nil]); first | done | rfl | (simp only [List.length_drop, List.length_take]; rfl)) ?_; (with_reducible refine (residual_Push.calls kj72 t235 t236 t237 _ _ t238 _ _ x27_3 _ _ x18_16 1 t266 t269 _ ?side1 ?side2 ?side3 ?side4 ?side5 ?side6 A76.out).mono ?_); (case side1 => repeat (first | exact (Kd.R_reads' HO_242003.out).2.2 | (with_reducible refine Kd.C_alloc ?_ _) | (with_reducible refine Kd.C_drewN ?_ _) | (with_reducible refine Kd.C_drew ?_))); (case side2 => exact (Kd.R_reads' HO_242003.out).2.1); (case side3 => repeat (first | exact (Kd.R_reads' HO_27.out).2.2 | (with_reducible refine Kd.C_alloc ?_ _) | (with_reducible refine Kd.C_drewN ?_ _) | (with_reducible refine Kd.C_drew ?_))); (case side4 => exact (Kd.R_reads' HO_27.out).2.1); (case side5 => repeat (first | exact (Kd.R_reads' HO_18.out).2.2 | (with_reducible refine Kd.C_alloc ?_ _) | (with_reducible refine Kd.C_drewN ?_ _) | (with_reducible refine Kd.C_drew ?_))); (case side6 => exact (Kd.R_reads' HO_18.out).2.1); rintro e w83 ⟨v267, rfl, ho0, hb⟩; refine ⟨_, rfl, ?_⟩; have n0_ := Aside0.mk (Kd.R_below (by (with_reducible repeat (first | apply Kd.R_alloc | apply Kd.R_drewN | apply Kd.R_drew)); exact HO_18.out) hb); have n1_ := Aside0.mk (Kd.R_elder' (by (with_reducible repeat (first | apply Kd.R_alloc | apply Kd.R_drewN | apply Kd.R_drew)); exact HO_25.out) (Kd.R_base ho0) hb); have n2_ := Aside0.mk (Kd.R_elder' (by (with_reducible repeat (first | apply Kd.R_alloc | apply Kd.R_drewN | apply Kd.R_drew)); exact HO_27.out) (Kd.R_base ho0) hb); have n3_ := Aside0.mk (Kd.R_below (by (with_reducible repeat (first | apply Kd.R_alloc | apply Kd.R_drewN | apply Kd.R_drew)); exact HO_242003.out) hb); have n4_ := Aside0.mk (Kd.R_lower (Kd.R_new' (Kd.R_new' ho0 (Kd.R_lt (by (with_reducible repeat (first | apply Kd.R_alloc | apply Kd.R_drewN | apply Kd.R_drew)); exact HO_25.out))) (Kd.R_lt (by (with_reducible repeat (first | apply Kd.R_alloc | apply Kd.R_drewN | apply Kd.R_drew)); exact HO_27.out))) (below_size (by repeat (first | (with_reducible first | exact HB.out | apply below_alloc | apply pw_below_drewN | apply below_drew1 | refine below_set ?_ GE241.out) | exact HB.out)))); have n5_ := Aside0.mk (blk_below (g := gb241) (o := .cells #[.int .i64 t235, .int .i64 t236, .int .i64 t237, .slice Ao21 t238.length co21] 27 (0, 0)) (by (with_reducible repeat (first | refine blk_drewN ?_ _ | refine blk_drew ?_ | refine blk_alloc ?_ _)); exact BK241.out) hb); have n6_ := Aside0.mk (below_step (by repeat (first | (with_reducible first | exact HB.out | apply below_alloc | apply pw_below_drewN | apply below_drew1 | refine below_set ?_ GE241.out) | exact HB.out)) hb); clear HO_18; clear HO_25; clear HO_27; clear HO_242003; clear BK241; clear HB; have HO_18 := n0_; have HO_25 := n1_; have HO_27 := n2_; have HO_242003 := n3_; have HO268 := n4_; have BK241 := n5_; have HB := n6_; clear n0_ n1_ n2_ n3_ n4_ n5_ n6_; (try clear hb); (try clear hb2); (try clear hk); (try clear hi); (try clear ho0)))
              go_roundg kj72
              case measure => have := HJ7.out; have := HJ16.out; have := HK3.out; have := HJ72.out; omega
              case rel => exact ⟨(x27_3), (t269), (wrap64 (x29_3 + 1)), (by first | rfl | (simp; done) | (simp [*]; done)), (by first | rfl | (simp; done) | (simp [*]; done)), H', ⟨by have := HJ7.out; have := HJ16.out; have := HK3.out; have := HJ72.out; omega⟩, ⟨by (with_reducible repeat (first | apply Kd.R_alloc | apply Kd.R_drewN | apply Kd.R_drew)); exact HO_18.out⟩, ⟨by (with_reducible repeat (first | apply Kd.R_alloc | apply Kd.R_drewN | apply Kd.R_drew)); exact Kd.R_mono HO_25.out (fun _ hk => hk.1)⟩, ⟨by (with_reducible repeat (first | apply Kd.R_alloc | apply Kd.R_drewN | apply Kd.R_drew)); exact Kd.R_mono HO_27.out (fun _ hk => hk.1)⟩, ⟨by (with_reducible repeat (first | apply Kd.R_alloc | apply Kd.R_drewN | apply Kd.R_drew)); exact HO_242003.out⟩, ⟨by (with_reducible repeat (first | refine blk_drewN ?_ _ | refine blk_drew ?_ | refine blk_alloc ?_ _)); exact BK241.out⟩, ⟨by repeat (first | (with_reducible first | exact HB.out | apply below_alloc | apply pw_below_drewN | apply below_drew1 | refine below_set ?_ GE241.out) | exact HB.out)⟩⟩
            ·replace c75 := Bool.eq_false_iff.mpr c75
             subst c75
             have H1 : (if x28_3 = t265 then (if t265 = 0 then ((racewayref5_Same.f kj72 x27_3 t262).bind fun t270 => (some t270)) else (some true)) else (some false)) = some r := by rw [if_neg (show ¬ (false = true) by decide)] at H; exact H
             clear H
             have H := H1
             clear H1
             by_cases c84 : x28_3 = t265
             ·rw [if_pos c84] at H
              have c84b0 : (x28_3 == t265) = true := beq_iff_eq.mpr c84
              have c84b1 : (x28_3 != t265) = false := bne_eq_false_iff_eq.mpr c84
              clear c84
              by_cases c85 : t265 = 0
              ·rw [if_pos c85] at H
               have c85b0 : (t265 == 0) = true := beq_iff_eq.mpr c85
               have c85b1 : (t265 != 0) = false := bne_eq_false_iff_eq.mpr c85
               clear c85
               replace H := Option.bind_eq_some_iff.mp H
               obtain ⟨t270, A860, H⟩ := H
               replace H : (some t270) = some r := H
               have A86 := Aside0.mk A860
               clear A860
               obtain rfl := Option.some.inj H
               obtain ⟨Ao87, co87, eo87⟩ := Kd.R_slice HO_27.out
               subst eo87
               obtain ⟨Ao88, co88, eo88⟩ := Kd.R_slice HO_25.out
               subst eo88
               go_wp2_with (first | (go_at_call 29; (with_reducible refine (racewayref5_Same.calls kj72 _ _ x27_3 _ _ t262 t270 _ ?side1 ?side2 ?side3 ?side4 A86.out).mono ?_); (case side1 => repeat (first | exact (Kd.R_reads' HO_27.out).2.2 | (with_reducible refine Kd.C_alloc ?_ _) | (with_reducible refine Kd.C_drewN ?_ _) | (with_reducible refine Kd.C_drew ?_))); (case side2 => exact (Kd.R_reads' HO_27.out).2.1); (case side3 => repeat (first | exact (Kd.R_reads' HO_25.out).2.2 | (with_reducible refine Kd.C_alloc ?_ _) | (with_reducible refine Kd.C_drewN ?_ _) | (with_reducible refine Kd.C_drew ?_))); (case side4 => exact (Kd.R_reads' HO_25.out).2.1); rintro e w' ⟨rfl, ⟨nd, rfl⟩⟩))
               go_ret
               exact ⟨by first | rfl | (simp [errW_none, errW_some] <;> rfl) | (simp only [← hji14]; first | rfl | (simp [errW_none, errW_some] <;> rfl)) | (simp [*, errW_none, errW_some] <;> rfl), by repeat (first | (with_reducible first | exact HB.out | apply below_alloc | apply pw_below_drewN | apply below_drew1 | refine below_set ?_ GE241.out) | exact HB.out)⟩
              ·rw [if_neg c85] at H
               have c85b0 : (t265 == 0) = false := beq_eq_false_iff_ne.mpr c85
               have c85b1 : (t265 != 0) = true := bne_iff_ne.mpr c85
               obtain rfl := Option.some.inj H
               go_wp2
               go_ret
               exact ⟨by first | rfl | (simp [errW_none, errW_some] <;> rfl) | (simp only [← hji14]; first | rfl | (simp [errW_none, errW_some] <;> rfl)) | (simp [*, errW_none, errW_some] <;> rfl), by repeat (first | (with_reducible first | exact HB.out | apply below_alloc | apply pw_below_drewN | apply below_drew1 | refine below_set ?_ GE241.out) | exact HB.out)⟩
             ·rw [if_neg c84] at H
              have c84b0 : (x28_3 == t265) = false := beq_eq_false_iff_ne.mpr c84
              have c84b1 : (x28_3 != t265) = true := bne_iff_ne.mpr c84
              exact absurd ((Option.some.inj H).trans hrT_.out) (by simp)
     ·rw [if_neg c16] at H
      exact absurd H (by simp)
    ·rw [if_neg c15] at H
     exact absurd H (by simp)

/-- THE ONE PURE STATEMENT of racewaylaw6_ResidualSteps. -/
def racewaylaw6_ResidualSteps.Pure : Prop := ∀ (a0 : Int) (a1 : Int) (l2 : List (S68)) (l3 : List Int) (l4 : List Int) (a5 : Int), (Lit.int .i64 a0).wf = true → (Lit.int .i64 a1).wf = true → l2.length ≤ maxLen → (∀ x ∈ l2, (Lit.int .i64 x.f0).wf = true ∧ (Lit.int .i64 x.f1).wf = true ∧ (Lit.int .i64 x.f2).wf = true) → l3.length ≤ maxLen → l3.length * 8 ≤ 140737488351232 → (∀ x ∈ l3, (Lit.int .i64 x).wf = true) → l4.length ≤ maxLen → l4.length * 8 ≤ 140737488351232 → (∀ x ∈ l4, (Lit.int .i64 x).wf = true) → (Lit.int .i64 a5).wf = true → ∃ k, racewaylaw6_ResidualSteps.f k a0 a1 l2 l3 l4 a5 = some true
theorem racewaylaw6_ResidualSteps.walk (P : racewaylaw6_ResidualSteps.Pure) (a0 : Int) (a1 : Int) (A2 : Option Addr) (c2 : Nat) (l2 : List (S68)) (A3 : Option Addr) (c3 : Nat) (l3 : List Int) (A4 : Option Addr) (c4 : Nat) (l4 : List Int) (a5 : Int) (w : World) (w0 : (Lit.int .i64 a0).wf = true) (w1 : (Lit.int .i64 a1).wf = true) (hr2 : Kd.C k68 w A2 l2.length l2) (hc2 : l2.length ≤ c2) (hm2 : l2.length ≤ maxLen) (hw2 : (∀ x ∈ l2, (Lit.int .i64 x.f0).wf = true ∧ (Lit.int .i64 x.f1).wf = true ∧ (Lit.int .i64 x.f2).wf = true)) (hr3 : Kd.C (Kd.int .i64) w A3 l3.length l3) (hc3 : l3.length ≤ c3) (hm3 : l3.length ≤ maxLen) (y3 : l3.length * 8 ≤ 140737488351232) (hw3 : (∀ x ∈ l3, (Lit.int .i64 x).wf = true)) (hr4 : Kd.C (Kd.int .i64) w A4 l4.length l4) (hc4 : l4.length ≤ c4) (hm4 : l4.length ≤ maxLen) (y4 : l4.length * 8 ≤ 140737488351232) (hw4 : (∀ x ∈ l4, (Lit.int .i64 x).wf = true)) (w5 : (Lit.int .i64 a5).wf = true) :
  Calls Try.prog 7 #[.int .i64 a0, .int .i64 a1, .slice A2 l2.length c2, .slice A3 l3.length c3, .slice A4 l4.length c4, .int .i64 a5] w fun e w' => e = .returned (.bool true) ∧ Below w.heap.size w w' := by
 obtain ⟨k, h⟩ := P a0 a1 l2 l3 l4 a5 w0 w1 hm2 hw2 hm3 y3 hw3 hm4 y4 hw4 w5
 refine (racewaylaw6_ResidualSteps.calls k a0 a1 _ _ l2 _ _ l3 _ _ l4 a5 true w hr2 hc2 hr3 hc3 hr4 hc4 h ⟨rfl⟩).mono ?_
 rintro e w' ⟨rfl, hd⟩
 exact ⟨rfl, hd⟩

end Go.Proofs.Ytbppeffcikphcaa.PResidualSteps
