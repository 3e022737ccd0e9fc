/- For the law LevelFew, for every input: printed by a program (wip/myprint), contracts by hand where it says MANUAL. -/
-- slim
import Derived.Test.YtbppeffcikphcaaPLevelFewx0
import Derived.Test.YtbppeffcikphcaaPLevelFewx1
import Derived.Test.YtbppeffcikphcaaPLevelFewx8
import Derived.Test.YtbppeffcikphcaaPLevelFewx9
import Derived.Test.YtbppeffcikphcaaPLevelFewx11
import Derived.Test.YtbppeffcikphcaaPLevelFewx13
import Derived.Test.YtbppeffcikphcaaPLevelFewx14
namespace Go.Proofs.Ytbppeffcikphcaa.PLevelFew
open Go.RowKit Go.Proofs.YtbppeffcikphcaaW.PrintWords Go.Proofs.YtbppeffcikphcaaW.PrintLast Go.Proofs.YtbppeffcikphcaaW.PrintMore
attribute [local go_sem] max2_int min2_int max_two min_two max_three min_three max_four min_four
set_option linter.unusedVariables false
set_option linter.unusedSimpArgs false
/-! ### racewaylaw7_LevelFew: function 5 -/
mutual
def racewaylaw7_LevelFew.j0 : Nat → List Int → List Int → Bool → Int → Int → Int → List (S49) → Option (Bool)
 | 0, _, _, _, _, _, _, _ => none
 | k + 1, x12, x14, x51, x228000, x228001, x228002, x228003 => if x51 = true then (some false) else (if 0 ≤ (wrap64 (x228000 + 1)) then (if (wrap64 (x228000 + 1) : Int).toNat ≤ 281474976710656 then (racewaylaw7_LevelFew.l0 k x12 x14 (List.replicate (wrap64 (x228000 + 1) : Int).toNat false) 0 1 x228000 x228001 x228002 x228003) else (none)) else (none))
def racewaylaw7_LevelFew.l0 : Nat → List Int → List Int → List Bool → Int → Int → Int → Int → Int → List (S49) → Option (Bool)
 | 0, _, _, _, _, _, _, _, _, _ => none
 | k + 1, x12, x14, x16, x17, x18, x228000, x228001, x228002, x228003 => if x18 ≤ x228000 then (if 0 ≤ x18 then (if x18 < (x12.length : Int) then (if (rd x12 x18) ≥ 0 then (if 0 ≤ (rd x12 x18) then (if (rd x12 x18) < (x16.length : Int) then (racewaylaw7_LevelFew.l0 k x12 x14 (x16.set ((rd x12 x18) : Int).toNat true) (mx x17 (rd x12 x18)) (wrap64 (x18 + 1)) x228000 x228001 x228002 x228003) else (none)) else (none)) else (racewaylaw7_LevelFew.l0 k x12 x14 x16 x17 (wrap64 (x18 + 1)) x228000 x228001 x228002 x228003)) else (none)) else (none)) else (racewaylaw7_LevelFew.l1 k x12 x14 x16 x17 0 x228000 x228001 x228002 x228003)
def racewaylaw7_LevelFew.l1 : Nat → List Int → List Int → List Bool → Int → Int → Int → Int → Int → List (S49) → Option (Bool)
 | 0, _, _, _, _, _, _, _, _, _ => none
 | k + 1, x12, x14, x16, x17, x19, x228000, x228001, x228002, x228003 => if x19 ≤ x17 then (if 0 ≤ x19 then (if x19 < (x16.length : Int) then (if rdOf false x16 x19 = true then (racewaylaw7_LevelFew.l1 k x12 x14 x16 x17 (wrap64 (x19 + 1)) x228000 x228001 x228002 x228003) else (some false)) else (none)) else (none)) else (racewaylaw7_LevelFew.l2 k x12 x14 0 x228000 x228001 x228002 x228003)
def racewaylaw7_LevelFew.l2 : Nat → List Int → List Int → Int → Int → Int → Int → List (S49) → Option (Bool)
 | 0, _, _, _, _, _, _, _ => none
 | k + 1, x12, x14, x20, x228000, x228001, x228002, x228003 => if x20 < (x14.length : Int) then (if 0 ≤ x20 then ((residual_Ends.f k x228000 x228001 x228002 x228003 (rd x14 x20)).bind fun bt248 => (if bt248.2 = x228001 then (racewaylaw7_LevelFew.j4 k x12 x14 x20 true x228000 x228001 x228002 x228003) else (if bt248.1 = bt248.2 then (racewaylaw7_LevelFew.j4 k x12 x14 x20 true x228000 x228001 x228002 x228003) else (if 0 ≤ bt248.1 then (if bt248.1 < (x12.length : Int) then (if 0 ≤ bt248.2 then (if bt248.2 < (x12.length : Int) then (racewaylaw7_LevelFew.j4 k x12 x14 x20 (decide ((rd x12 bt248.1) ≥ (rd x12 bt248.2))) x228000 x228001 x228002 x228003) else (none)) else (none)) else (none)) else (none))))) else (none)) else (some true)
def racewaylaw7_LevelFew.j4 : Nat → List Int → List Int → Int → Bool → Int → Int → Int → List (S49) → Option (Bool)
 | 0, _, _, _, _, _, _, _, _ => none
 | k + 1, x12, x14, x20, x123, x228000, x228001, x228002, x228003 => if x123 = true then (some false) else (racewaylaw7_LevelFew.l3 k x12 x14 x20 0 x228000 x228001 x228002 x228003)
def racewaylaw7_LevelFew.l3 : Nat → List Int → List Int → Int → Int → Int → Int → Int → List (S49) → Option (Bool)
 | 0, _, _, _, _, _, _, _, _ => none
 | k + 1, x12, x14, x20, x23, x228000, x228001, x228002, x228003 => if x23 < x20 then (if 0 ≤ x23 then (if x23 < (x14.length : Int) then (if 0 ≤ x20 then (if x20 < (x14.length : Int) then (if (rd x14 x23) = (Go.bits .xor .i64 (rd x14 x20) 1) then (some false) else (racewaylaw7_LevelFew.l3 k x12 x14 x20 (wrap64 (x23 + 1)) x228000 x228001 x228002 x228003)) else (none)) else (none)) else (none)) else (none)) else (racewaylaw7_LevelFew.l2 k x12 x14 (wrap64 (x20 + 1)) x228000 x228001 x228002 x228003)
end
def racewaylaw7_LevelFew.f (k : Nat) (a0 : Int) (a1 : Int) (l2 : List (S72)) (l3 : List Int) : Option (Bool) := (racewaylaw7_shown.f k).bind fun t220 => (if t220 = true then ((racewaylaw7_made.f k a0 a1 l2).bind fun bt221 => ((racewaylaw7_routed.f k bt221.1 bt221.2.1 bt221.2.2.1 bt221.2.2.2 l3).bind fun t228 => ((level_Levels.f k bt221.1 bt221.2.1 bt221.2.2.1 bt221.2.2.2 t228 1).bind fun bt231 => ((level_Leads.f k bt221.1 bt221.2.1 bt221.2.2.1 bt221.2.2.2 t228 1).bind fun bt235 => (if bt231.2 = 0 then (racewaylaw7_LevelFew.j0 k bt231.1 bt235.1 (bt235.2 != 0) bt221.1 bt221.2.1 bt221.2.2.1 bt221.2.2.2) else (racewaylaw7_LevelFew.j0 k bt231.1 bt235.1 true bt221.1 bt221.2.1 bt221.2.2.1 bt221.2.2.2)))))) else (some false))
theorem racewaylaw7_LevelFew.mono_l : ∀ k, (∀ y0 y1 y2 y3 y4 y5 y6, LeO (racewaylaw7_LevelFew.j0 k y0 y1 y2 y3 y4 y5 y6) (racewaylaw7_LevelFew.j0 (k + 1) y0 y1 y2 y3 y4 y5 y6)) ∧ (∀ y0 y1 y2 y3 y4 y5 y6 y7 y8, LeO (racewaylaw7_LevelFew.l0 k y0 y1 y2 y3 y4 y5 y6 y7 y8) (racewaylaw7_LevelFew.l0 (k + 1) y0 y1 y2 y3 y4 y5 y6 y7 y8)) ∧ (∀ y0 y1 y2 y3 y4 y5 y6 y7 y8, LeO (racewaylaw7_LevelFew.l1 k y0 y1 y2 y3 y4 y5 y6 y7 y8) (racewaylaw7_LevelFew.l1 (k + 1) y0 y1 y2 y3 y4 y5 y6 y7 y8)) ∧ (∀ y0 y1 y2 y3 y4 y5 y6, LeO (racewaylaw7_LevelFew.l2 k y0 y1 y2 y3 y4 y5 y6) (racewaylaw7_LevelFew.l2 (k + 1) y0 y1 y2 y3 y4 y5 y6)) ∧ (∀ y0 y1 y2 y3 y4 y5 y6 y7, LeO (racewaylaw7_LevelFew.j4 k y0 y1 y2 y3 y4 y5 y6 y7) (racewaylaw7_LevelFew.j4 (k + 1) y0 y1 y2 y3 y4 y5 y6 y7)) ∧ (∀ y0 y1 y2 y3 y4 y5 y6 y7, LeO (racewaylaw7_LevelFew.l3 k y0 y1 y2 y3 y4 y5 y6 y7) (racewaylaw7_LevelFew.l3 (k + 1) y0 y1 y2 y3 y4 y5 y6 y7))
 | 0 => ⟨fun _ _ _ _ _ _ _ r h => by simp [racewaylaw7_LevelFew.j0] at h, fun _ _ _ _ _ _ _ _ _ r h => by simp [racewaylaw7_LevelFew.l0] at h, fun _ _ _ _ _ _ _ _ _ r h => by simp [racewaylaw7_LevelFew.l1] at h, fun _ _ _ _ _ _ _ r h => by simp [racewaylaw7_LevelFew.l2] at h, fun _ _ _ _ _ _ _ _ r h => by simp [racewaylaw7_LevelFew.j4] at h, fun _ _ _ _ _ _ _ _ r h => by simp [racewaylaw7_LevelFew.l3] at h⟩
 | k + 1 => by
  obtain ⟨ih0, ih1, ih2, ih3, ih4, ih5⟩ := racewaylaw7_LevelFew.mono_l k
  refine ⟨?_, ?_, ?_, ?_, ?_, ?_⟩
  ·intro y0 y1 y2 y3 y4 y5 y6
   unfold racewaylaw7_LevelFew.j0
   repeat' first
   | (with_reducible exact ih0 _ _ _ _ _ _ _)
   | (with_reducible exact ih1 _ _ _ _ _ _ _ _ _)
   | (with_reducible exact ih2 _ _ _ _ _ _ _ _ _)
   | (with_reducible exact ih3 _ _ _ _ _ _ _)
   | (with_reducible exact ih4 _ _ _ _ _ _ _ _)
   | (with_reducible exact ih5 _ _ _ _ _ _ _ _)
   | (with_reducible exact level_Leads.mono _ _ _ _ _ _ _)
   | (with_reducible exact level_Levels.mono _ _ _ _ _ _ _)
   | (with_reducible exact racewaylaw7_made.mono _ _ _ _)
   | (with_reducible exact racewaylaw7_routed.mono _ _ _ _ _ _)
   | (with_reducible exact racewaylaw7_shown.mono _)
   | (with_reducible exact residual_Ends.mono _ _ _ _ _ _)
   | (with_reducible exact LeO.refl _)
   | (with_reducible exact LeO.none _)
   | (with_reducible refine LeO.ite ?_ ?_)
   | (with_reducible refine LeO.bind ?_ (fun _ => ?_))
   | exact ih0 _ _ _ _ _ _ _
   | exact ih1 _ _ _ _ _ _ _ _ _
   | exact ih2 _ _ _ _ _ _ _ _ _
   | exact ih3 _ _ _ _ _ _ _
   | exact ih4 _ _ _ _ _ _ _ _
   | exact ih5 _ _ _ _ _ _ _ _
   | exact level_Leads.mono _ _ _ _ _ _ _
   | exact level_Levels.mono _ _ _ _ _ _ _
   | exact racewaylaw7_made.mono _ _ _ _
   | exact racewaylaw7_routed.mono _ _ _ _ _ _
   | exact racewaylaw7_shown.mono _
   | exact residual_Ends.mono _ _ _ _ _ _
   | exact LeO.none _
   | refine LeO.ite ?_ ?_
   | refine LeO.bind ?_ (fun _ => ?_)
  ·intro y0 y1 y2 y3 y4 y5 y6 y7 y8
   unfold racewaylaw7_LevelFew.l0
   repeat' first
   | (with_reducible exact ih0 _ _ _ _ _ _ _)
   | (with_reducible exact ih1 _ _ _ _ _ _ _ _ _)
   | (with_reducible exact ih2 _ _ _ _ _ _ _ _ _)
   | (with_reducible exact ih3 _ _ _ _ _ _ _)
   | (with_reducible exact ih4 _ _ _ _ _ _ _ _)
   | (with_reducible exact ih5 _ _ _ _ _ _ _ _)
   | (with_reducible exact level_Leads.mono _ _ _ _ _ _ _)
   | (with_reducible exact level_Levels.mono _ _ _ _ _ _ _)
   | (with_reducible exact racewaylaw7_made.mono _ _ _ _)
   | (with_reducible exact racewaylaw7_routed.mono _ _ _ _ _ _)
   | (with_reducible exact racewaylaw7_shown.mono _)
   | (with_reducible exact residual_Ends.mono _ _ _ _ _ _)
   | (with_reducible exact LeO.refl _)
   | (with_reducible exact LeO.none _)
   | (with_reducible refine LeO.ite ?_ ?_)
   | (with_reducible refine LeO.bind ?_ (fun _ => ?_))
   | exact ih0 _ _ _ _ _ _ _
   | exact ih1 _ _ _ _ _ _ _ _ _
   | exact ih2 _ _ _ _ _ _ _ _ _
   | exact ih3 _ _ _ _ _ _ _
   | exact ih4 _ _ _ _ _ _ _ _
   | exact ih5 _ _ _ _ _ _ _ _
   | exact level_Leads.mono _ _ _ _ _ _ _
   | exact level_Levels.mono _ _ _ _ _ _ _
   | exact racewaylaw7_made.mono _ _ _ _
   | exact racewaylaw7_routed.mono _ _ _ _ _ _
   | exact racewaylaw7_shown.mono _
   | exact residual_Ends.mono _ _ _ _ _ _
   | exact LeO.none _
   | refine LeO.ite ?_ ?_
   | refine LeO.bind ?_ (fun _ => ?_)
  ·intro y0 y1 y2 y3 y4 y5 y6 y7 y8
   unfold racewaylaw7_LevelFew.l1
   repeat' first
   | (with_reducible exact ih0 _ _ _ _ _ _ _)
   | (with_reducible exact ih1 _ _ _ _ _ _ _ _ _)
   | (with_reducible exact ih2 _ _ _ _ _ _ _ _ _)
   | (with_reducible exact ih3 _ _ _ _ _ _ _)
   | (with_reducible exact ih4 _ _ _ _ _ _ _ _)
   | (with_reducible exact ih5 _ _ _ _ _ _ _ _)
   | (with_reducible exact level_Leads.mono _ _ _ _ _ _ _)
   | (with_reducible exact level_Levels.mono _ _ _ _ _ _ _)
   | (with_reducible exact racewaylaw7_made.mono _ _ _ _)
   | (with_reducible exact racewaylaw7_routed.mono _ _ _ _ _ _)
   | (with_reducible exact racewaylaw7_shown.mono _)
   | (with_reducible exact residual_Ends.mono _ _ _ _ _ _)
   | (with_reducible exact LeO.refl _)
   | (with_reducible exact LeO.none _)
   | (with_reducible refine LeO.ite ?_ ?_)
   | (with_reducible refine LeO.bind ?_ (fun _ => ?_))
   | exact ih0 _ _ _ _ _ _ _
   | exact ih1 _ _ _ _ _ _ _ _ _
   | exact ih2 _ _ _ _ _ _ _ _ _
   | exact ih3 _ _ _ _ _ _ _
   | exact ih4 _ _ _ _ _ _ _ _
   | exact ih5 _ _ _ _ _ _ _ _
   | exact level_Leads.mono _ _ _ _ _ _ _
   | exact level_Levels.mono _ _ _ _ _ _ _
   | exact racewaylaw7_made.mono _ _ _ _
   | exact racewaylaw7_routed.mono _ _ _ _ _ _
   | exact racewaylaw7_shown.mono _
   | exact residual_Ends.mono _ _ _ _ _ _
   | exact LeO.none _
   | refine LeO.ite ?_ ?_
   | refine LeO.bind ?_ (fun _ => ?_)
  ·intro y0 y1 y2 y3 y4 y5 y6
   unfold racewaylaw7_LevelFew.l2
   repeat' first
   | (with_reducible exact ih0 _ _ _ _ _ _ _)
   | (with_reducible exact ih1 _ _ _ _ _ _ _ _ _)
   | (with_reducible exact ih2 _ _ _ _ _ _ _ _ _)
   | (with_reducible exact ih3 _ _ _ _ _ _ _)
   | (with_reducible exact ih4 _ _ _ _ _ _ _ _)
   | (with_reducible exact ih5 _ _ _ _ _ _ _ _)
   | (with_reducible exact level_Leads.mono _ _ _ _ _ _ _)
   | (with_reducible exact level_Levels.mono _ _ _ _ _ _ _)
   | (with_reducible exact racewaylaw7_made.mono _ _ _ _)
   | (with_reducible exact racewaylaw7_routed.mono _ _ _ _ _ _)
   | (with_reducible exact racewaylaw7_shown.mono _)
   | (with_reducible exact residual_Ends.mono _ _ _ _ _ _)
   | (with_reducible exact LeO.refl _)
   | (with_reducible exact LeO.none _)
   | (with_reducible refine LeO.ite ?_ ?_)
   | (with_reducible refine LeO.bind ?_ (fun _ => ?_))
   | exact ih0 _ _ _ _ _ _ _
   | exact ih1 _ _ _ _ _ _ _ _ _
   | exact ih2 _ _ _ _ _ _ _ _ _
   | exact ih3 _ _ _ _ _ _ _
   | exact ih4 _ _ _ _ _ _ _ _
   | exact ih5 _ _ _ _ _ _ _ _
   | exact level_Leads.mono _ _ _ _ _ _ _
   | exact level_Levels.mono _ _ _ _ _ _ _
   | exact racewaylaw7_made.mono _ _ _ _
   | exact racewaylaw7_routed.mono _ _ _ _ _ _
   | exact racewaylaw7_shown.mono _
   | exact residual_Ends.mono _ _ _ _ _ _
   | exact LeO.none _
   | refine LeO.ite ?_ ?_
   | refine LeO.bind ?_ (fun _ => ?_)
  ·intro y0 y1 y2 y3 y4 y5 y6 y7
   unfold racewaylaw7_LevelFew.j4
   repeat' first
   | (with_reducible exact ih0 _ _ _ _ _ _ _)
   | (with_reducible exact ih1 _ _ _ _ _ _ _ _ _)
   | (with_reducible exact ih2 _ _ _ _ _ _ _ _ _)
   | (with_reducible exact ih3 _ _ _ _ _ _ _)
   | (with_reducible exact ih4 _ _ _ _ _ _ _ _)
   | (with_reducible exact ih5 _ _ _ _ _ _ _ _)
   | (with_reducible exact level_Leads.mono _ _ _ _ _ _ _)
   | (with_reducible exact level_Levels.mono _ _ _ _ _ _ _)
   | (with_reducible exact racewaylaw7_made.mono _ _ _ _)
   | (with_reducible exact racewaylaw7_routed.mono _ _ _ _ _ _)
   | (with_reducible exact racewaylaw7_shown.mono _)
   | (with_reducible exact residual_Ends.mono _ _ _ _ _ _)
   | (with_reducible exact LeO.refl _)
   | (with_reducible exact LeO.none _)
   | (with_reducible refine LeO.ite ?_ ?_)
   | (with_reducible refine LeO.bind ?_ (fun _ => ?_))
   | exact ih0 _ _ _ _ _ _ _
   | exact ih1 _ _ _ _ _ _ _ _ _
   | exact ih2 _ _ _ _ _ _ _ _ _
   | exact ih3 _ _ _ _ _ _ _
   | exact ih4 _ _ _ _ _ _ _ _
   | exact ih5 _ _ _ _ _ _ _ _
   | exact level_Leads.mono _ _ _ _ _ _ _
   | exact level_Levels.mono _ _ _ _ _ _ _
   | exact racewaylaw7_made.mono _ _ _ _
   | exact racewaylaw7_routed.mono _ _ _ _ _ _
   | exact racewaylaw7_shown.mono _
   | exact residual_Ends.mono _ _ _ _ _ _
   | exact LeO.none _
   | refine LeO.ite ?_ ?_
   | refine LeO.bind ?_ (fun _ => ?_)
  ·intro y0 y1 y2 y3 y4 y5 y6 y7
   unfold racewaylaw7_LevelFew.l3
   repeat' first
   | (with_reducible exact ih0 _ _ _ _ _ _ _)
   | (with_reducible exact ih1 _ _ _ _ _ _ _ _ _)
   | (with_reducible exact ih2 _ _ _ _ _ _ _ _ _)
   | (with_reducible exact ih3 _ _ _ _ _ _ _)
   | (with_reducible exact ih4 _ _ _ _ _ _ _ _)
   | (with_reducible exact ih5 _ _ _ _ _ _ _ _)
   | (with_reducible exact level_Leads.mono _ _ _ _ _ _ _)
   | (with_reducible exact level_Levels.mono _ _ _ _ _ _ _)
   | (with_reducible exact racewaylaw7_made.mono _ _ _ _)
   | (with_reducible exact racewaylaw7_routed.mono _ _ _ _ _ _)
   | (with_reducible exact racewaylaw7_shown.mono _)
   | (with_reducible exact residual_Ends.mono _ _ _ _ _ _)
   | (with_reducible exact LeO.refl _)
   | (with_reducible exact LeO.none _)
   | (with_reducible refine LeO.ite ?_ ?_)
   | (with_reducible refine LeO.bind ?_ (fun _ => ?_))
   | exact ih0 _ _ _ _ _ _ _
   | exact ih1 _ _ _ _ _ _ _ _ _
   | exact ih2 _ _ _ _ _ _ _ _ _
   | exact ih3 _ _ _ _ _ _ _
   | exact ih4 _ _ _ _ _ _ _ _
   | exact ih5 _ _ _ _ _ _ _ _
   | exact level_Leads.mono _ _ _ _ _ _ _
   | exact level_Levels.mono _ _ _ _ _ _ _
   | exact racewaylaw7_made.mono _ _ _ _
   | exact racewaylaw7_routed.mono _ _ _ _ _ _
   | exact racewaylaw7_shown.mono _
   | exact residual_Ends.mono _ _ _ _ _ _
   | exact LeO.none _
   | refine LeO.ite ?_ ?_
   | refine LeO.bind ?_ (fun _ => ?_)
theorem racewaylaw7_LevelFew.mono : ∀ a0 a1 a2 a3 k, LeO (racewaylaw7_LevelFew.f k a0 a1 a2 a3) (racewaylaw7_LevelFew.f (k + 1) a0 a1 a2 a3) := by
 intro a0 a1 a2 a3 k
 obtain ⟨ih0, ih1, ih2, ih3, ih4, ih5⟩ := racewaylaw7_LevelFew.mono_l k
 unfold racewaylaw7_LevelFew.f
 repeat' first
   | (with_reducible exact ih0 _ _ _ _ _ _ _)
   | (with_reducible exact ih1 _ _ _ _ _ _ _ _ _)
   | (with_reducible exact ih2 _ _ _ _ _ _ _ _ _)
   | (with_reducible exact ih3 _ _ _ _ _ _ _)
   | (with_reducible exact ih4 _ _ _ _ _ _ _ _)
   | (with_reducible exact ih5 _ _ _ _ _ _ _ _)
   | (with_reducible exact level_Leads.mono _ _ _ _ _ _ _)
   | (with_reducible exact level_Levels.mono _ _ _ _ _ _ _)
   | (with_reducible exact racewaylaw7_made.mono _ _ _ _)
   | (with_reducible exact racewaylaw7_routed.mono _ _ _ _ _ _)
   | (with_reducible exact racewaylaw7_shown.mono _)
   | (with_reducible exact residual_Ends.mono _ _ _ _ _ _)
   | (with_reducible exact LeO.refl _)
   | (with_reducible exact LeO.none _)
   | (with_reducible refine LeO.ite ?_ ?_)
   | (with_reducible refine LeO.bind ?_ (fun _ => ?_))
   | exact ih0 _ _ _ _ _ _ _
   | exact ih1 _ _ _ _ _ _ _ _ _
   | exact ih2 _ _ _ _ _ _ _ _ _
   | exact ih3 _ _ _ _ _ _ _
   | exact ih4 _ _ _ _ _ _ _ _
   | exact ih5 _ _ _ _ _ _ _ _
   | exact level_Leads.mono _ _ _ _ _ _ _
   | exact level_Levels.mono _ _ _ _ _ _ _
   | exact racewaylaw7_made.mono _ _ _ _
   | exact racewaylaw7_routed.mono _ _ _ _ _ _
   | exact racewaylaw7_shown.mono _
   | exact residual_Ends.mono _ _ _ _ _ _
   | exact LeO.none _
   | refine LeO.ite ?_ ?_
   | refine LeO.bind ?_ (fun _ => ?_)
def racewaylaw7_LevelFew.T26 : Bool × List (List Nat × List Nat) := (true, [([], []), ([], []), ([], []), ([1, 2], [1, 2]), ([3], [3]), ([0, 4], [0, 4]), ([5], [5]), ([6], [6]), ([6], [6]), ([7, 5, 0, 1, 2, 3, 4, 5, 6, 7], [7]), ([8, 9, 0, 1, 2, 3, 4, 5, 6, 7, 8, 9], [8])])
def racewaylaw7_LevelFew.B26 : List Nat := [0, 0, 0, 6, 14, 31, 63, 127, 127, 255, 1023]
theorem racewaylaw7_LevelFew.tab26 : rtab .any (opsOf Try.f5 26) = racewaylaw7_LevelFew.T26 := by kernel_rfl
theorem racewaylaw7_LevelFew.bits26 : waitsOk racewaylaw7_LevelFew.T26.2 racewaylaw7_LevelFew.B26 = true := by kernel_rfl
def racewaylaw7_LevelFew.T27 : Bool × List (List Nat × List Nat) := (true, [([], []), ([], []), ([1], [1]), ([0, 2], [0, 2]), ([3], [3]), ([4], [4]), ([4], [4]), ([5, 6, 4], [4, 5, 6]), ([4, 7], [4, 7]), ([8, 4], [8]), ([9], [9]), ([9], [9]), ([10, 11, 9], [9, 10, 11]), ([12, 9], [9, 12]), ([9], [9]), ([9], [9]), ([14, 15, 9], [9, 14, 15]), ([16, 9], [9, 16]), ([13, 17, 9], [9, 13, 17]), ([9, 18], [9, 18])])
def racewaylaw7_LevelFew.B27 : List Nat := [0, 0, 2, 7, 15, 31, 31, 127, 255, 511, 1023, 1023, 4095, 8191, 1023, 1023, 50175, 115711, 262143, 524287]
theorem racewaylaw7_LevelFew.tab27 : rtab .any (opsOf Try.f5 27) = racewaylaw7_LevelFew.T27 := by kernel_rfl
theorem racewaylaw7_LevelFew.bits27 : waitsOk racewaylaw7_LevelFew.T27.2 racewaylaw7_LevelFew.B27 = true := by kernel_rfl
def racewaylaw7_LevelFew.T32 : Bool × List (List Nat × List Nat) := (true, [([], []), ([], []), ([0, 1], [0, 1]), ([2], [2]), ([], []), ([], []), ([4, 5], [4, 5]), ([6], [6]), ([7], [7]), ([3, 8], [3, 8])])
def racewaylaw7_LevelFew.B32 : List Nat := [0, 0, 3, 7, 0, 0, 48, 112, 240, 511]
theorem racewaylaw7_LevelFew.tab32 : rtab .any (opsOf Try.f5 32) = racewaylaw7_LevelFew.T32 := by kernel_rfl
theorem racewaylaw7_LevelFew.bits32 : waitsOk racewaylaw7_LevelFew.T32.2 racewaylaw7_LevelFew.B32 = true := by kernel_rfl
set_option maxHeartbeats 8000000 in
set_option maxRecDepth 100000 in
theorem racewaylaw7_LevelFew.calls (k : Nat) (a0 : Int) (a1 : Int) (A2 : Option Addr) (c2 : Nat) (l2 : List (S72)) (A3 : Option Addr) (c3 : Nat) (l3 : List Int) (r : Bool) (w : World) (hr2 : Kd.C k72 w A2 l2.length l2) (hc2 : l2.length ≤ c2) (hr3 : Kd.C (Kd.int .i64) w A3 l3.length l3) (hc3 : l3.length ≤ c3) (h : racewaylaw7_LevelFew.f k a0 a1 l2 l3 = some r) (hrT_ : Aside0 (r = true)) :
  Calls Try.prog 5 #[.int .i64 a0, .int .i64 a1, .slice A2 l2.length c2, .slice A3 l3.length c3] w fun e w' => e = .returned (.bool r) ∧ Below w.heap.size w w' := by
 have hu27 := Try.underlying27
 have HR2 := Aside0.mk hr2
 have HC2 := Aside0.mk hc2
 clear hr2 hc2
 have HR3 := Aside0.mk hr3
 have HC3 := Aside0.mk hc3
 clear hr3 hc3
 have HB := Aside0.mk (Below.refl w.heap.size w)
 have H : ((racewaylaw7_shown.f k).bind fun t220 => (if t220 = true then ((racewaylaw7_made.f k a0 a1 l2).bind fun bt221 => ((racewaylaw7_routed.f k bt221.1 bt221.2.1 bt221.2.2.1 bt221.2.2.2 l3).bind fun t228 => ((level_Levels.f k bt221.1 bt221.2.1 bt221.2.2.1 bt221.2.2.2 t228 1).bind fun bt231 => ((level_Leads.f k bt221.1 bt221.2.1 bt221.2.2.1 bt221.2.2.2 t228 1).bind fun bt235 => (if bt231.2 = 0 then (racewaylaw7_LevelFew.j0 k bt231.1 bt235.1 (bt235.2 != 0) bt221.1 bt221.2.1 bt221.2.2.1 bt221.2.2.2) else (racewaylaw7_LevelFew.j0 k bt231.1 bt235.1 true bt221.1 bt221.2.1 bt221.2.2.1 bt221.2.2.2)))))) else (some false))) = some r := h
 clear h
 replace H := Option.bind_eq_some_iff.mp H
 obtain ⟨t220, A50, H⟩ := H
 replace H : (if t220 = true then ((racewaylaw7_made.f k a0 a1 l2).bind fun bt221 => ((racewaylaw7_routed.f k bt221.1 bt221.2.1 bt221.2.2.1 bt221.2.2.2 l3).bind fun t228 => ((level_Levels.f k bt221.1 bt221.2.1 bt221.2.2.1 bt221.2.2.2 t228 1).bind fun bt231 => ((level_Leads.f k bt221.1 bt221.2.1 bt221.2.2.1 bt221.2.2.2 t228 1).bind fun bt235 => (if bt231.2 = 0 then (racewaylaw7_LevelFew.j0 k bt231.1 bt235.1 (bt235.2 != 0) bt221.1 bt221.2.1 bt221.2.2.1 bt221.2.2.2) else (racewaylaw7_LevelFew.j0 k bt231.1 bt235.1 true bt221.1 bt221.2.1 bt221.2.2.1 bt221.2.2.2)))))) else (some false)) = some r := H
 have A5 := Aside0.mk A50
 clear A50
 by_cases c6 : t220 = true
 ·subst c6
  have H1 : ((racewaylaw7_made.f k a0 a1 l2).bind fun bt221 => ((racewaylaw7_routed.f k bt221.1 bt221.2.1 bt221.2.2.1 bt221.2.2.2 l3).bind fun t228 => ((level_Levels.f k bt221.1 bt221.2.1 bt221.2.2.1 bt221.2.2.2 t228 1).bind fun bt231 => ((level_Leads.f k bt221.1 bt221.2.1 bt221.2.2.1 bt221.2.2.2 t228 1).bind fun bt235 => (if bt231.2 = 0 then (racewaylaw7_LevelFew.j0 k bt231.1 bt235.1 (bt235.2 != 0) bt221.1 bt221.2.1 bt221.2.2.1 bt221.2.2.2) else (racewaylaw7_LevelFew.j0 k bt231.1 bt235.1 true bt221.1 bt221.2.1 bt221.2.2.1 bt221.2.2.2)))))) = some r := by rw [if_pos rfl] at H; exact H
  clear H
  have H := H1
  clear H1
  replace H := Option.bind_eq_some_iff.mp H
  obtain ⟨⟨t221, t222, t223, t224⟩, A70, H⟩ := H
  replace H : ((racewaylaw7_routed.f k t221 t222 t223 t224 l3).bind fun t228 => ((level_Levels.f k t221 t222 t223 t224 t228 1).bind fun bt231 => ((level_Leads.f k t221 t222 t223 t224 t228 1).bind fun bt235 => (if bt231.2 = 0 then (racewaylaw7_LevelFew.j0 k bt231.1 bt235.1 (bt235.2 != 0) t221 t222 t223 t224) else (racewaylaw7_LevelFew.j0 k bt231.1 bt235.1 true t221 t222 t223 t224))))) = some r := H
  have A7 := Aside0.mk A70
  clear A70
  replace H := Option.bind_eq_some_iff.mp H
  obtain ⟨t228, A80, H⟩ := H
  replace H : ((level_Levels.f k t221 t222 t223 t224 t228 1).bind fun bt231 => ((level_Leads.f k t221 t222 t223 t224 t228 1).bind fun bt235 => (if bt231.2 = 0 then (racewaylaw7_LevelFew.j0 k bt231.1 bt235.1 (bt235.2 != 0) t221 t222 t223 t224) else (racewaylaw7_LevelFew.j0 k bt231.1 bt235.1 true t221 t222 t223 t224)))) = some r := H
  have A8 := Aside0.mk A80
  clear A80
  replace H := Option.bind_eq_some_iff.mp H
  obtain ⟨⟨t231, t234⟩, A90, H⟩ := H
  replace H : ((level_Leads.f k t221 t222 t223 t224 t228 1).bind fun bt235 => (if t234 = 0 then (racewaylaw7_LevelFew.j0 k t231 bt235.1 (bt235.2 != 0) t221 t222 t223 t224) else (racewaylaw7_LevelFew.j0 k t231 bt235.1 true t221 t222 t223 t224))) = some r := H
  have A9 := Aside0.mk A90
  clear A90
  replace H := Option.bind_eq_some_iff.mp H
  obtain ⟨⟨t235, t238⟩, A100, H⟩ := H
  replace H : (if t234 = 0 then (racewaylaw7_LevelFew.j0 k t231 t235 (t238 != 0) t221 t222 t223 t224) else (racewaylaw7_LevelFew.j0 k t231 t235 true t221 t222 t223 t224)) = some r := H
  have A10 := Aside0.mk A100
  clear A100
  have HC11 := Aside0.mk H
  clear H
  go_enter Try.func5, Try.ntmps5
  go_upto_region 8 with (first | ((with_reducible refine gate_callee (f := 22) rfl ?_); refine goesL_ (some 24) rfl rfl Try.func22 (by kernel_rfl) rfl #[] rfl (by (try simp only [List.map_toArray, List.map_cons, List.map_nil]); first | done | rfl | (simp only [List.length_drop, List.length_take]; rfl)) ?_; (with_reducible refine (racewaylaw7_shown.calls k  true _ A5.out).mono ?_); rintro e w12 ⟨rfl, hb⟩; refine ⟨_, rfl, ?_⟩; have n0_ := Aside0.mk (below_step (by repeat (first | (with_reducible first | exact HB.out | apply below_alloc | apply pw_below_drewN | apply below_drew1) | exact HB.out)) hb); clear HB; have HB := n0_; clear n0_; (try clear hb); (try clear hb2); (try clear hk); (try clear hi)) | ((with_reducible refine gate_callee (f := 23) rfl ?_); refine goesL_ (some 30) rfl rfl Try.func23 (by kernel_rfl) rfl #[.int .i64 a0, .int .i64 a1, .slice A2 l2.length c2] rfl (by (try simp only [List.map_toArray, List.map_cons, List.map_nil]); first | done | rfl | (simp only [List.length_drop, List.length_take]; rfl)) ?_; (with_reducible refine (racewaylaw7_made.calls k a0 a1 _ _ l2 t221 t222 t223 t224 _ ?side1 ?side2 A7.out).mono ?_); (case side1 => repeat (first | exact (Kd.C_below HR2.out HB.out) | (with_reducible refine Kd.C_alloc ?_ _) | (with_reducible refine Kd.C_drewN ?_ _) | (with_reducible refine Kd.C_drew ?_))); (case side2 => exact HC2.out); rintro e w13 ⟨v225, rfl, ho0, hb⟩; refine ⟨_, rfl, ?_⟩; have n0_ := Aside0.mk (Kd.R_lower ho0 (below_size (by repeat (first | (with_reducible first | exact HB.out | apply below_alloc | apply pw_below_drewN | apply below_drew1) | exact HB.out)))); have n1_ := Aside0.mk (below_step (by repeat (first | (with_reducible first | exact HB.out | apply below_alloc | apply pw_below_drewN | apply below_drew1) | exact HB.out)) hb); clear HB; have HO226 := n0_; have HB := n1_; clear n0_ n1_; (try clear hb); (try clear hb2); (try clear hk); (try clear hi); (try clear ho0)) | ((with_reducible refine gate_dst (N := 10) rfl ?_); refine box_event ?hg (N := 10) ?hd (cs := #[.int .i64 0, .int .i64 0, .int .i64 0, .slice none 0 0]) (t := 27) ?hr ?_; (case hd => rfl); (case hg => rfl); (case hr => first | (go_simp; done) | (go_simp; rfl)); intro gb227 hg w14 hbox hb; have n0_ := Aside0.mk (Kd.R_below (by (with_reducible repeat first | apply Kd.R_alloc | apply Kd.R_drewN | apply Kd.R_drew); exact HO226.out) hb); have n1_ := Aside0.mk (below_step (by repeat (first | (with_reducible first | exact HB.out | apply below_alloc | apply pw_below_drewN | apply below_drew1) | exact HB.out)) hb); have n2_ := Aside0.mk (hbox); have n3_ := Aside0.mk ((by rw [hg]; exact (below_size (by repeat (first | (with_reducible first | exact HB.out | apply below_alloc | apply pw_below_drewN | apply below_drew1) | exact HB.out))) : w.heap.size ≤ gb227)); have n4_ := Aside0.mk ((by rw [hg]; exact (below_size (by repeat (first | (with_reducible first | exact HB.out | apply below_alloc | apply pw_below_drewN | apply below_drew1) | exact HB.out))) : w.heap.size ≤ gb227)); clear HO226; clear HB; have HO226 := n0_; have HB := n1_; have BK227 := n2_; have GW227 := n3_; have GE227 := n4_; clear n0_ n1_ n2_ n3_ n4_; clear hb hbox hg; have hcz15_0 : w14.cell? ⟨gb227, 0, none⟩ = some (.int .i64 0) := (blk_cell BK227.out 0).trans rfl; have hcz15_1 : w14.cell? ⟨gb227, 1, none⟩ = some (.int .i64 0) := (blk_cell BK227.out 1).trans rfl; have hcz15_2 : w14.cell? ⟨gb227, 2, none⟩ = some (.int .i64 0) := (blk_cell BK227.out 2).trans rfl; have hcz15_3 : w14.cell? ⟨gb227, 3, none⟩ = some (.slice none 0 0) := (blk_cell BK227.out 3).trans rfl; have hfz15_0 := blk_frozen BK227.out 0; have hfz15_1 := blk_frozen BK227.out 1; have hfz15_2 := blk_frozen BK227.out 2; have hfz15_3 := blk_frozen BK227.out 3; obtain ⟨Ao16, co16, eo16⟩ := Kd.R_slice HO226.out; subst eo16) | ((with_reducible refine gate_callee (f := 24) rfl ?_); refine goesL_ (some 33) rfl rfl Try.func24 (by kernel_rfl) rfl #[.agg #[.int .i64 t221, .int .i64 t222, .int .i64 t223, .slice Ao16 t224.length co16], .slice A3 l3.length c3] rfl (by (try simp only [List.map_toArray, List.map_cons, List.map_nil]); first | done | rfl | (simp only [List.length_drop, List.length_take]; rfl)) ?_; (with_reducible refine (racewaylaw7_routed.calls k t221 t222 t223 _ _ t224 _ _ l3 t228 _ ?side1 ?side2 ?side3 ?side4 A8.out).mono ?_); (case side1 => refine (Kd.R_reads' (e := 49) (base := w.heap.size) (ok := fun k_ => True) (n := t224.length) (c := co16) ?_).2.2; exact (by (with_reducible repeat first | apply Kd.R_alloc | apply Kd.R_drewN | apply Kd.R_drew); exact (Kd.R_mono (Kd.R_far (p := ⟨gb227, 3, none⟩) (Kd.R_far (p := ⟨gb227, 2, none⟩) (Kd.R_far (p := ⟨gb227, 1, none⟩) (Kd.R_far (p := ⟨gb227, 0, none⟩) (Kd.R_types HO226.out BK227.out (by decide)) (fun _ hk => hk.2) (.int .i64 t221)) (fun _ hk => hk.2) (.int .i64 t222)) (fun _ hk => hk.2) (.int .i64 t223)) (fun _ hk => hk.2) (.slice Ao16 t224.length co16)) (fun _ h_ => h_.1)))); (case side2 => exact (Kd.R_reads' HO226.out).2.1); (case side3 => exact Kd.C_below HR3.out (by repeat (first | (with_reducible first | exact HB.out | apply below_alloc | apply pw_below_drewN | apply below_drew1 | refine below_set ?_ GE227.out) | exact HB.out))); (case side4 => exact HC3.out); rintro e w17 ⟨v229, rfl, ho0, hb⟩; refine ⟨_, rfl, ?_⟩; have n0_ := Aside0.mk (Kd.R_below (by (with_reducible repeat first | apply Kd.R_alloc | apply Kd.R_drewN | apply Kd.R_drew); exact (Kd.R_mono (Kd.R_far (p := ⟨gb227, 3, none⟩) (Kd.R_far (p := ⟨gb227, 2, none⟩) (Kd.R_far (p := ⟨gb227, 1, none⟩) (Kd.R_far (p := ⟨gb227, 0, none⟩) (Kd.R_types HO226.out BK227.out (by decide)) (fun _ hk => hk.2) (.int .i64 t221)) (fun _ hk => hk.2) (.int .i64 t222)) (fun _ hk => hk.2) (.int .i64 t223)) (fun _ hk => hk.2) (.slice Ao16 t224.length co16)) (fun _ h_ => h_.1))) hb); have n1_ := Aside0.mk (Kd.R_lower ho0 (below_size (by repeat (first | (with_reducible first | exact HB.out | apply below_alloc | apply pw_below_drewN | apply below_drew1 | refine below_set ?_ GE227.out) | exact HB.out)))); have n2_ := Aside0.mk (blk_below (g := gb227) (o := .cells #[.int .i64 t221, .int .i64 t222, .int .i64 t223, .slice Ao16 t224.length co16] 27 (0, 0)) (by (with_reducible repeat first | refine blk_drewN ?_ _ | refine blk_drew ?_ | refine blk_alloc ?_ _); refine blk_put (cs := #[.int .i64 t221, .int .i64 t222, .int .i64 t223, .slice none 0 0]) ?_ 3 _ rfl; (with_reducible repeat first | refine blk_drewN ?_ _ | refine blk_drew ?_ | refine blk_alloc ?_ _); refine blk_put (cs := #[.int .i64 t221, .int .i64 t222, .int .i64 0, .slice none 0 0]) ?_ 2 _ rfl; (with_reducible repeat first | refine blk_drewN ?_ _ | refine blk_drew ?_ | refine blk_alloc ?_ _); refine blk_put (cs := #[.int .i64 t221, .int .i64 0, .int .i64 0, .slice none 0 0]) ?_ 1 _ rfl; (with_reducible repeat first | refine blk_drewN ?_ _ | refine blk_drew ?_ | refine blk_alloc ?_ _); refine blk_put (cs := #[.int .i64 0, .int .i64 0, .int .i64 0, .slice none 0 0]) ?_ 0 _ rfl; (with_reducible repeat first | refine blk_drewN ?_ _ | refine blk_drew ?_ | refine blk_alloc ?_ _); exact BK227.out) hb); have n3_ := Aside0.mk (below_step (by repeat (first | (with_reducible first | exact HB.out | apply below_alloc | apply pw_below_drewN | apply below_drew1 | refine below_set ?_ GE227.out) | exact HB.out)) hb); clear HO226; clear BK227; clear HB; have HO226 := n0_; have HO230 := n1_; have BK227 := n2_; have HB := n3_; clear n0_ n1_ n2_ n3_; (try clear hb); (try clear hb2); (try clear hk); (try clear hi); (try clear ho0); have hcz18_0 : w17.cell? ⟨gb227, 0, none⟩ = some (.int .i64 t221) := (blk_cell BK227.out 0).trans rfl; have hcz18_1 : w17.cell? ⟨gb227, 1, none⟩ = some (.int .i64 t222) := (blk_cell BK227.out 1).trans rfl; have hcz18_2 : w17.cell? ⟨gb227, 2, none⟩ = some (.int .i64 t223) := (blk_cell BK227.out 2).trans rfl; have hcz18_3 : w17.cell? ⟨gb227, 3, none⟩ = some (.slice Ao16 t224.length co16) := (blk_cell BK227.out 3).trans rfl; have hfz18_0 := blk_frozen BK227.out 0; have hfz18_1 := blk_frozen BK227.out 1; have hfz18_2 := blk_frozen BK227.out 2; have hfz18_3 := blk_frozen BK227.out 3; obtain ⟨Ao19, co19, eo19⟩ := Kd.R_slice HO230.out; subst eo19) | ((with_reducible refine gate_callee (f := 26) rfl ?_); refine goesL_ (some 37) rfl rfl Try.func26 (by kernel_rfl) rfl #[.agg #[.int .i64 t221, .int .i64 t222, .int .i64 t223, .slice Ao16 t224.length co16], .slice Ao19 t228.length co19, .int .i64 1] rfl (by (try simp only [List.map_toArray, List.map_cons, List.map_nil]); first | done | rfl | (simp only [List.length_drop, List.length_take]; rfl)) ?_; (with_reducible refine (level_Levels.calls k t221 t222 t223 _ _ t224 _ _ t228 1 t231 t234 _ ?side1 ?side2 ?side3 ?side4 A9.out).mono ?_); (case side1 => repeat (first | exact (Kd.R_reads' HO226.out).2.2 | (with_reducible refine Kd.C_alloc ?_ _) | (with_reducible refine Kd.C_drewN ?_ _) | (with_reducible refine Kd.C_drew ?_))); (case side2 => exact (Kd.R_reads' HO226.out).2.1); (case side3 => repeat (first | exact (Kd.R_reads' HO230.out).2.2 | (with_reducible refine Kd.C_alloc ?_ _) | (with_reducible refine Kd.C_drewN ?_ _) | (with_reducible refine Kd.C_drew ?_))); (case side4 => exact (Kd.R_reads' HO230.out).2.1); rintro e w20 ⟨v232, rfl, ho0, hb⟩; refine ⟨_, rfl, ?_⟩; have n0_ := Aside0.mk (Kd.R_below (by (with_reducible repeat first | apply Kd.R_alloc | apply Kd.R_drewN | apply Kd.R_drew); exact HO226.out) hb); have n1_ := Aside0.mk (Kd.R_below (by (with_reducible repeat first | apply Kd.R_alloc | apply Kd.R_drewN | apply Kd.R_drew); exact HO230.out) hb); have n2_ := Aside0.mk (Kd.R_lower ho0 (below_size (by repeat (first | (with_reducible first | exact HB.out | apply below_alloc | apply pw_below_drewN | apply below_drew1 | refine below_set ?_ GE227.out) | exact HB.out)))); have n3_ := Aside0.mk (blk_below (g := gb227) (o := .cells #[.int .i64 t221, .int .i64 t222, .int .i64 t223, .slice Ao16 t224.length co16] 27 (0, 0)) (by (with_reducible repeat first | refine blk_drewN ?_ _ | refine blk_drew ?_ | refine blk_alloc ?_ _); exact BK227.out) hb); have n4_ := Aside0.mk (below_step (by repeat (first | (with_reducible first | exact HB.out | apply below_alloc | apply pw_below_drewN | apply below_drew1 | refine below_set ?_ GE227.out) | exact HB.out)) hb); clear HO226; clear HO230; clear BK227; clear HB; have HO226 := n0_; have HO230 := n1_; have HO233 := n2_; have BK227 := n3_; have HB := n4_; clear n0_ n1_ n2_ n3_ n4_; (try clear hb); (try clear hb2); (try clear hk); (try clear hi); (try clear ho0); have hcz21_0 : w20.cell? ⟨gb227, 0, none⟩ = some (.int .i64 t221) := (blk_cell BK227.out 0).trans rfl; have hcz21_1 : w20.cell? ⟨gb227, 1, none⟩ = some (.int .i64 t222) := (blk_cell BK227.out 1).trans rfl; have hcz21_2 : w20.cell? ⟨gb227, 2, none⟩ = some (.int .i64 t223) := (blk_cell BK227.out 2).trans rfl; have hcz21_3 : w20.cell? ⟨gb227, 3, none⟩ = some (.slice Ao16 t224.length co16) := (blk_cell BK227.out 3).trans rfl; have hfz21_0 := blk_frozen BK227.out 0; have hfz21_1 := blk_frozen BK227.out 1; have hfz21_2 := blk_frozen BK227.out 2; have hfz21_3 := blk_frozen BK227.out 3) | ((with_reducible refine gate_callee (f := 27) rfl ?_); refine goesL_ (some 43) rfl rfl Try.func27 (by kernel_rfl) rfl #[.agg #[.int .i64 t221, .int .i64 t222, .int .i64 t223, .slice Ao16 t224.length co16], .slice Ao19 t228.length co19, .int .i64 1] rfl (by (try simp only [List.map_toArray, List.map_cons, List.map_nil]); first | done | rfl | (simp only [List.length_drop, List.length_take]; rfl)) ?_; (with_reducible refine (level_Leads.calls k t221 t222 t223 _ _ t224 _ _ t228 1 t235 t238 _ ?side1 ?side2 ?side3 ?side4 A10.out).mono ?_); (case side1 => repeat (first | exact (Kd.R_reads' HO226.out).2.2 | (with_reducible refine Kd.C_alloc ?_ _) | (with_reducible refine Kd.C_drewN ?_ _) | (with_reducible refine Kd.C_drew ?_))); (case side2 => exact (Kd.R_reads' HO226.out).2.1); (case side3 => repeat (first | exact (Kd.R_reads' HO230.out).2.2 | (with_reducible refine Kd.C_alloc ?_ _) | (with_reducible refine Kd.C_drewN ?_ _) | (with_reducible refine Kd.C_drew ?_))); (case side4 => exact (Kd.R_reads' HO230.out).2.1); rintro e w22 ⟨v236, rfl, ho0, hb⟩; refine ⟨_, rfl, ?_⟩; have n0_ := Aside0.mk (Kd.R_below (by (with_reducible repeat first | apply Kd.R_alloc | apply Kd.R_drewN | apply Kd.R_drew); exact HO226.out) hb); have n1_ := Aside0.mk (Kd.R_below (by (with_reducible repeat first | apply Kd.R_alloc | apply Kd.R_drewN | apply Kd.R_drew); exact HO230.out) hb); have n2_ := Aside0.mk (Kd.R_elder' (by (with_reducible repeat first | apply Kd.R_alloc | apply Kd.R_drewN | apply Kd.R_drew); exact HO233.out) (Kd.R_base ho0) hb); have n3_ := Aside0.mk (Kd.R_lower (Kd.R_new' ho0 (Kd.R_lt (by (with_reducible repeat first | apply Kd.R_alloc | apply Kd.R_drewN | apply Kd.R_drew); exact HO233.out))) (below_size (by repeat (first | (with_reducible first | exact HB.out | apply below_alloc | apply pw_below_drewN | apply below_drew1 | refine below_set ?_ GE227.out) | exact HB.out)))); have n4_ := Aside0.mk (blk_below (g := gb227) (o := .cells #[.int .i64 t221, .int .i64 t222, .int .i64 t223, .slice Ao16 t224.length co16] 27 (0, 0)) (by (with_reducible repeat first | refine blk_drewN ?_ _ | refine blk_drew ?_ | refine blk_alloc ?_ _); exact BK227.out) hb); have n5_ := Aside0.mk (below_step (by repeat (first | (with_reducible first | exact HB.out | apply below_alloc | apply pw_below_drewN | apply below_drew1 | refine below_set ?_ GE227.out) | exact HB.out)) hb); clear HO226; clear HO230; clear HO233; clear BK227; clear HB; have HO226 := n0_; have HO230 := n1_; have HO233 := n2_; have HO237 := n3_; have BK227 := n4_; have HB := n5_; clear n0_ n1_ n2_ n3_ n4_ n5_; (try clear hb); (try clear hb2); (try clear hk); (try clear hi); (try clear ho0)))
  (try simp only [Act.put, List.setIfInBounds_toArray, List.set_cons_zero, List.set_cons_succ])
  go_cut [51] (fun v51 wc => ∃ (kq : Nat) (x51_10 : Bool), v51 = .bool x51_10 ∧ Aside0 (racewaylaw7_LevelFew.j0 kq t231 t235 x51_10 t221 t222 t223 t224 = some r) ∧ Aside0 (kq ≤ k) ∧ Aside0 (Kd.R (Kd.int .i64) 3 wc w.heap.size (fun k_ => some k_ ≠ (v236 : Value).ownBlock) v232 t231) ∧ Aside0 (Kd.R (Kd.int .i64) 3 wc w.heap.size (fun k_ => some k_ ≠ (v232 : Value).ownBlock) v236 t235) ∧ Aside0 (Kd.R k49 49 wc w.heap.size (fun _ => True) (.slice Ao16 t224.length co16) t224) ∧ Aside0 (wc.heap[gb227]? = some (.cells #[.int .i64 t221, .int .i64 t222, .int .i64 t223, (.slice Ao16 t224.length co16)] 27 (0, 0))) ∧ Aside0 (Below w.heap.size w wc))
  case first =>
   have H := HC11.out
   clear HC11
   by_cases c23 : t234 = 0
   ·rw [if_pos c23] at H
    have c23b0 : (t234 == 0) = true := beq_iff_eq.mpr c23
    have c23b1 : (t234 != 0) = false := bne_eq_false_iff_eq.mpr c23
    clear c23
    (first | rw [c23b0] | (simp only [i64_w, i32_w]; rw [c23b0]) | skip)
    have H' := Aside0.mk H
    clear H
    go_wp2
    go_meet
    case rel => exact ⟨_, ((t238 != 0)), (by first | rfl | (simp; done) | (simp [*]; done)), H', ⟨by first | omega | exact Nat.le_refl _⟩, ⟨by (with_reducible repeat first | apply Kd.R_alloc | apply Kd.R_drewN | apply Kd.R_drew); exact Kd.R_mono HO233.out (fun _ hk => hk.2)⟩, ⟨by (with_reducible repeat first | apply Kd.R_alloc | apply Kd.R_drewN | apply Kd.R_drew); exact Kd.R_mono HO237.out (fun _ hk => hk.2)⟩, ⟨by (with_reducible repeat first | apply Kd.R_alloc | apply Kd.R_drewN | apply Kd.R_drew); exact HO226.out⟩, ⟨by (with_reducible repeat first | refine blk_drewN ?_ _ | refine blk_drew ?_ | refine blk_alloc ?_ _); exact BK227.out⟩, ⟨by repeat (first | (with_reducible first | exact HB.out | apply below_alloc | apply pw_below_drewN | apply below_drew1 | refine below_set ?_ GE227.out) | exact HB.out)⟩⟩
   ·rw [if_neg c23] at H
    have c23b0 : (t234 == 0) = false := beq_eq_false_iff_ne.mpr c23
    have c23b1 : (t234 != 0) = true := bne_iff_ne.mpr c23
    (first | rw [c23b0] | (simp only [i64_w, i32_w]; rw [c23b0]) | skip)
    have H' := Aside0.mk H
    clear H
    go_wp2
    go_meet
    case rel => exact ⟨_, (true), (by first | rfl | (simp; done) | (simp [*]; done)), H', ⟨by first | omega | exact Nat.le_refl _⟩, ⟨by (with_reducible repeat first | apply Kd.R_alloc | apply Kd.R_drewN | apply Kd.R_drew); exact Kd.R_mono HO233.out (fun _ hk => hk.2)⟩, ⟨by (with_reducible repeat first | apply Kd.R_alloc | apply Kd.R_drewN | apply Kd.R_drew); exact Kd.R_mono HO237.out (fun _ hk => hk.2)⟩, ⟨by (with_reducible repeat first | apply Kd.R_alloc | apply Kd.R_drewN | apply Kd.R_drew); exact HO226.out⟩, ⟨by (with_reducible repeat first | refine blk_drewN ?_ _ | refine blk_drew ?_ | refine blk_alloc ?_ _); exact BK227.out⟩, ⟨by repeat (first | (with_reducible first | exact HB.out | apply below_alloc | apply pw_below_drewN | apply below_drew1 | refine below_set ?_ GE227.out) | exact HB.out)⟩⟩
  case rest =>
   clear HC11
   try clear c2
   try clear p2
   try clear c3
   try clear c5
   try clear c6
   try clear c22
   try clear c23
   try clear c23b0
   try clear c23b1
   try clear hcz15_0
   try clear hcz15_1
   try clear hcz15_2
   try clear hcz15_3
   try clear hcz18_0
   try clear hcz18_1
   try clear hcz18_2
   try clear hcz18_3
   try clear hcz21_0
   try clear hcz21_1
   try clear hcz21_2
   try clear hcz21_3
   try clear hfz15_0
   try clear hfz15_1
   try clear hfz15_2
   try clear hfz15_3
   try clear hfz18_0
   try clear hfz18_1
   try clear hfz18_2
   try clear hfz18_3
   try clear hfz21_0
   try clear hfz21_1
   try clear hfz21_2
   try clear hfz21_3
   obtain ⟨kq, x51_10, rfl, HA, HJ10, HO_12, HO_14, HO_228003, BK227, HB⟩ := hcut
   cases kq with
   | zero => exact absurd HA.out (by simp [racewaylaw7_LevelFew.j0])
   | succ kj10 =>
    have H := HA.out
    clear HA
    simp only [racewaylaw7_LevelFew.j0] at H
    by_cases c24 : x51_10 = true
    ·subst c24
     have H1 : (some false) = some r := by rw [if_pos rfl] at H; exact H
     clear H
     have H := H1
     clear H1
     exact absurd ((Option.some.inj H).trans hrT_.out) (by simp)
    ·replace c24 := Bool.eq_false_iff.mpr c24
     subst c24
     have H1 : (if 0 ≤ (wrap64 (t221 + 1)) then (if (wrap64 (t221 + 1) : Int).toNat ≤ 281474976710656 then (racewaylaw7_LevelFew.l0 kj10 t231 t235 (List.replicate (wrap64 (t221 + 1) : Int).toNat false) 0 1 t221 t222 t223 t224) else (none)) else (none)) = some r := by rw [if_neg (show ¬ (false = true) by decide)] at H; exact H
     clear H
     have H := H1
     clear H1
     obtain ⟨ji25, hji25⟩ : ∃ j_ : Int, (wrap64 (t221 + 1)) = j_ := ⟨_, rfl⟩
     replace H : (if 0 ≤ (ji25) then (if (ji25 : Int).toNat ≤ 281474976710656 then (racewaylaw7_LevelFew.l0 kj10 t231 t235 (List.replicate (ji25 : Int).toNat false) 0 1 t221 t222 t223 t224) else (none)) else (none)) = some r := by first | (rw [hji25] at H; exact H) | (simp only [hji25] at H ⊢; exact H)
     have hji25w : (IntKind.i64.wrap (t221 + 1)) = ji25 := (i64_w _).trans hji25
     by_cases c26 : 0 ≤ (ji25)
     ·rw [if_pos c26] at H
      have c26b0 := eq_true c26
      have c26b1 : decide (0 ≤ (ji25)) = true := decide_eq_true c26
      clear c26
      by_cases c27 : (ji25 : Int).toNat ≤ 281474976710656
      ·rw [if_pos c27] at H
       have c27b0 := eq_true c27
       have c27b1 : decide ((ji25 : Int).toNat ≤ 281474976710656) = true := decide_eq_true c27
       clear c27
       obtain ⟨y239, hy239⟩ : ∃ y_ : List Bool, y_ = (List.replicate (ji25 : Int).toNat false) := ⟨_, rfl⟩
       replace H : (racewaylaw7_LevelFew.l0 kj10 t231 t235 y239 0 1 t221 t222 t223 t224) = some r := by first | (rw [hy239]; with_reducible exact H) | (have H2_ := (Option.bind_some _ _).symm.trans H; rw [hy239]; with_reducible exact H2_) | (have H2_ := (Option.bind_some _ _).symm.trans H; with_reducible exact H2_) | with_reducible exact H | (rw [hy239]; exact H) | exact H
       have Ny239 := Aside0.mk hy239
       clear hy239
       have H' := Aside0.mk H
       clear H
       have hcz28_0 : wc.cell? ⟨gb227, 0, none⟩ = some (.int .i64 t221) := (blk_cell BK227.out 0).trans rfl
       have hcz28_1 : wc.cell? ⟨gb227, 1, none⟩ = some (.int .i64 t222) := (blk_cell BK227.out 1).trans rfl
       have hcz28_2 : wc.cell? ⟨gb227, 2, none⟩ = some (.int .i64 t223) := (blk_cell BK227.out 2).trans rfl
       have hcz28_3 : wc.cell? ⟨gb227, 3, none⟩ = some (.slice Ao16 t224.length co16) := (blk_cell BK227.out 3).trans rfl
       have hfz28_0 := blk_frozen BK227.out 0
       have hfz28_1 := blk_frozen BK227.out 1
       have hfz28_2 := blk_frozen BK227.out 2
       have hfz28_3 := blk_frozen BK227.out 3
       go_wp2_with (first | ((with_reducible refine gate_dst (N := 55) rfl ?_); refine Kd.R_make Kd.bool _ 4 rfl (N := 55) rfl 35 _ _ rfl ji25 rfl rfl Try.underlying35 (.bool false) 1 info4 rfl (by decide) (by omega) false (ok := fun _ => True) (okp := fun _ => True) rfl (fun _ hk => hk) trivial (of_decide_eq_true (by first | (with_reducible assumption) | assumption)) (Nat.le_trans (Nat.mul_le_mul_right _ (of_decide_eq_true (by first | (with_reducible assumption) | assumption) : ji25.toNat ≤ 281474976710656)) (by omega)) (Below.refl _ _) (Nat.le_refl _) ?_; intro v240 w29 ho30 hb hg_ hnew_; clear hg_ hnew_; (first | rw [← Ny239.out] at ho30 | (simp only [Int.reduceToNat] at ho30; rw [← Ny239.out] at ho30)); have n0_ := Aside0.mk (Kd.R_below (by (with_reducible repeat first | apply Kd.R_alloc | apply Kd.R_drewN | apply Kd.R_drew); exact HO_12.out) hb); have n1_ := Aside0.mk (Kd.R_below (by (with_reducible repeat first | apply Kd.R_alloc | apply Kd.R_drewN | apply Kd.R_drew); exact HO_14.out) hb); have n2_ := Aside0.mk (Kd.R_below (by (with_reducible repeat first | apply Kd.R_alloc | apply Kd.R_drewN | apply Kd.R_drew); exact HO_228003.out) hb); have n3_ := Aside0.mk (Kd.R_lower ho30 (below_size (by repeat (first | (with_reducible first | exact HB.out | apply below_alloc | apply pw_below_drewN | apply below_drew1 | refine below_set ?_ GE227.out) | exact HB.out)))); have n4_ := Aside0.mk (blk_below (g := gb227) (o := .cells #[.int .i64 t221, .int .i64 t222, .int .i64 t223, .slice Ao16 t224.length co16] 27 (0, 0)) (by (with_reducible repeat first | refine blk_drewN ?_ _ | refine blk_drew ?_ | refine blk_alloc ?_ _); exact BK227.out) hb); have n5_ := Aside0.mk (below_step (by repeat (first | (with_reducible first | exact HB.out | apply below_alloc | apply pw_below_drewN | apply below_drew1 | refine below_set ?_ GE227.out) | exact HB.out)) hb); clear HO_12; clear HO_14; clear HO_228003; clear BK227; clear HB; have HO_12 := n0_; have HO_14 := n1_; have HO_228003 := n2_; have HO241 := n3_; have BK227 := n4_; have HB := n5_; clear n0_ n1_ n2_ n3_ n4_ n5_; clear hb ho30))
       go_loopg [17, 18] kj10 (fun kq v17 v18 w' => ∃ (x16_2 : List Bool) (x17_2 : Int) (x18_2 : Int), v17 = .int .i64 x17_2 ∧ v18 = .int .i64 x18_2 ∧ Aside0 (racewaylaw7_LevelFew.l0 kq t231 t235 x16_2 x17_2 x18_2 t221 t222 t223 t224 = some r) ∧ Aside0 (kq ≤ kj10) ∧ Aside0 (Kd.R (Kd.int .i64) 3 w' w.heap.size (fun k_ => some k_ ≠ (v236 : Value).ownBlock) v232 t231) ∧ Aside0 (Kd.R (Kd.int .i64) 3 w' w.heap.size (fun k_ => some k_ ≠ (v232 : Value).ownBlock) v236 t235) ∧ Aside0 (Kd.R Kd.bool 4 w' w.heap.size (fun _ => True) v240 x16_2) ∧ Aside0 (Kd.R k49 49 w' w.heap.size (fun _ => True) (.slice Ao16 t224.length co16) t224) ∧ Aside0 (w'.heap[gb227]? = some (.cells #[.int .i64 t221, .int .i64 t222, .int .i64 t223, (.slice Ao16 t224.length co16)] 27 (0, 0))) ∧ Aside0 (Below w.heap.size w w'))
       case atStart => exact ⟨(y239), (0), (1), (by first | rfl | (simp; done) | (simp [*]; done)), (by first | rfl | (simp; done) | (simp [*]; done)), H', ⟨Nat.le_refl _⟩, ⟨by (with_reducible repeat first | apply Kd.R_alloc | apply Kd.R_drewN | apply Kd.R_drew); exact HO_12.out⟩, ⟨by (with_reducible repeat first | apply Kd.R_alloc | apply Kd.R_drewN | apply Kd.R_drew); exact HO_14.out⟩, ⟨by (with_reducible repeat first | apply Kd.R_alloc | apply Kd.R_drewN | apply Kd.R_drew); exact HO241.out⟩, ⟨by (with_reducible repeat first | apply Kd.R_alloc | apply Kd.R_drewN | apply Kd.R_drew); exact HO_228003.out⟩, ⟨by (with_reducible repeat first | refine blk_drewN ?_ _ | refine blk_drew ?_ | refine blk_alloc ?_ _); exact BK227.out⟩, ⟨by repeat (first | (with_reducible first | exact HB.out | apply below_alloc | apply pw_below_drewN | apply below_drew1 | refine below_set ?_ GE227.out) | exact HB.out)⟩⟩
       case round =>
        clear H'
        try clear c2
        try clear p2
        try clear c3
        try clear c5
        try clear c6
        try clear p6
        try clear c22
        try clear c23
        try clear c23b0
        try clear c23b1
        try clear c24
        try clear c26
        try clear c26b0
        try clear c26b1
        try clear c27
        try clear c27b0
        try clear c27b1
        try clear hcz15_0
        try clear hcz15_1
        try clear hcz15_2
        try clear hcz15_3
        try clear hcz18_0
        try clear hcz18_1
        try clear hcz18_2
        try clear hcz18_3
        try clear hcz21_0
        try clear hcz21_1
        try clear hcz21_2
        try clear hcz21_3
        try clear hcz28_0
        try clear hcz28_1
        try clear hcz28_2
        try clear hcz28_3
        try clear hfz15_0
        try clear hfz15_1
        try clear hfz15_2
        try clear hfz15_3
        try clear hfz18_0
        try clear hfz18_1
        try clear hfz18_2
        try clear hfz18_3
        try clear hfz21_0
        try clear hfz21_1
        try clear hfz21_2
        try clear hfz21_3
        try clear hfz28_0
        try clear hfz28_1
        try clear hfz28_2
        try clear hfz28_3
        try clear p2
        obtain ⟨x16_2, x17_2, x18_2, rfl, rfl, HA, HK2, HO_12, HO_14, HO_16, HO_228003, BK227, HB⟩ := hrel
        cases gk with
        | zero => exact absurd HA.out (by simp [racewaylaw7_LevelFew.l0])
        | succ k2 =>
         have H := HA.out
         clear HA
         simp only [racewaylaw7_LevelFew.l0] at H
         by_cases c31 : x18_2 ≤ t221
         ·rw [if_pos c31] at H
          have c31b0 : decide (x18_2 ≤ t221) = true := decide_eq_true c31
          clear c31
          by_cases c32 : 0 ≤ x18_2
          ·rw [if_pos c32] at H
           have c32b0 : decide (0 ≤ x18_2) = true := decide_eq_true c32
           clear c32
           by_cases c33 : x18_2 < (t231.length : Int)
           ·rw [if_pos c33] at H
            have c33b0 : decide (x18_2 < (t231.length : Int)) = true := decide_eq_true c33
            clear c33
            by_cases c34 : (rd t231 x18_2) ≥ 0
            ·rw [if_pos c34] at H
             have c34b0 : decide (0 ≤ (rd t231 x18_2)) = true := decide_eq_true c34
             clear c34
             by_cases c35 : 0 ≤ (rd t231 x18_2)
             ·rw [if_pos c35] at H
              have c35b0 : decide (0 ≤ (rd t231 x18_2)) = true := decide_eq_true c35
              clear c35
              by_cases c36 : (rd t231 x18_2) < (x16_2.length : Int)
              ·rw [if_pos c36] at H
               have c36b0 : decide ((rd t231 x18_2) < (x16_2.length : Int)) = true := decide_eq_true c36
               clear c36
               obtain ⟨y244, hy244⟩ : ∃ y_ : List Bool, y_ = (x16_2.set ((rd t231 x18_2) : Int).toNat true) := ⟨_, rfl⟩
               replace H : (racewaylaw7_LevelFew.l0 k2 t231 t235 y244 (mx x17_2 (rd t231 x18_2)) (wrap64 (x18_2 + 1)) t221 t222 t223 t224) = some r := by first | (rw [hy244]; with_reducible exact H) | (have H2_ := (Option.bind_some _ _).symm.trans H; rw [hy244]; with_reducible exact H2_) | (have H2_ := (Option.bind_some _ _).symm.trans H; with_reducible exact H2_) | with_reducible exact H | (rw [hy244]; exact H) | exact H
               have Ny244 := Aside0.mk hy244
               clear hy244
               obtain ⟨ji38, hji38⟩ : ∃ j_ : Int, (mx x17_2 (rd t231 x18_2)) = j_ := ⟨_, rfl⟩
               replace H : (racewaylaw7_LevelFew.l0 k2 t231 t235 y244 ji38 (wrap64 (x18_2 + 1)) t221 t222 t223 t224) = some r := by first | (rw [hji38] at H; exact H) | (simp only [hji38] at H ⊢; exact H)
               have hji38_ : (if x17_2 < (rd t231 x18_2) then (rd t231 x18_2) else x17_2) = ji38 := hji38
               have H' := Aside0.mk H
               clear H
               have hcz39_0 : wr.cell? ⟨gb227, 0, none⟩ = some (.int .i64 t221) := (blk_cell BK227.out 0).trans rfl
               have hcz39_1 : wr.cell? ⟨gb227, 1, none⟩ = some (.int .i64 t222) := (blk_cell BK227.out 1).trans rfl
               have hcz39_2 : wr.cell? ⟨gb227, 2, none⟩ = some (.int .i64 t223) := (blk_cell BK227.out 2).trans rfl
               have hcz39_3 : wr.cell? ⟨gb227, 3, none⟩ = some (.slice Ao16 t224.length co16) := (blk_cell BK227.out 3).trans rfl
               have hfz39_0 := blk_frozen BK227.out 0
               have hfz39_1 := blk_frozen BK227.out 1
               have hfz39_2 := blk_frozen BK227.out 2
               have hfz39_3 := blk_frozen BK227.out 3
               obtain ⟨Ao40, co40, eo40⟩ := Kd.R_slice HO_12.out
               subst eo40
               have p242 : 0 ≤ (x18_2 : Int) := of_decide_eq_true (by first | (with_reducible assumption) | assumption)
               have q242 : x18_2 < (t231.length : Int) := of_decide_eq_true (by first | (with_reducible assumption) | assumption)
               obtain ⟨ad242, e242, hx242_0⟩ := Kd.at_int (Kd.R_reads' HO_12.out).2.2 x18_2 p242 q242
               cases e242
               replace p242 := eq_true p242
               replace q242 := eq_true q242
               have p243 : 0 ≤ (x18_2 : Int) := of_decide_eq_true (by first | (with_reducible assumption) | assumption)
               have q243 : x18_2 < (t231.length : Int) := of_decide_eq_true (by first | (with_reducible assumption) | assumption)
               obtain ⟨ad243, e243, hx243_0⟩ := Kd.at_int (Kd.R_reads' HO_12.out).2.2 x18_2 p243 q243
               obtain rfl : ad242 = ad243 := (by injection e243)
               replace p243 := eq_true p243
               replace q243 := eq_true q243
               have p37 : 0 ≤ ((rd t231 x18_2) : Int) := of_decide_eq_true (by first | (with_reducible assumption) | assumption)
               have q37 : ((rd t231 x18_2) : Int) < ((x16_2.length : Int) : Int) := of_decide_eq_true (by first | (with_reducible assumption) | assumption)
               obtain ⟨go37, co37, eo37, gb37, gl37, cl37, HG37⟩ := Kd.R_form HO_16.out (by omega)
               (first | cases eo37 | (injection eo37 with ea_ en_ ec_; (first | subst ea_ | (injection ea_ with ea_; subst ea_)); subst ec_; clear en_))
               have GB37 := Aside0.mk gb37
               have GG37 := Aside0.mk HG37
               clear gb37 gl37 HG37
               obtain ⟨hx37_0, hf37_0⟩ := Kd.R_celln false HO_16.out ((rd t231 x18_2) : Int) p37 q37
               replace p37 := eq_true p37
               replace q37 := eq_true q37
               have HP41 := Kd.R_putg HO_16.out ((rd t231 x18_2) : Int) true
               go_wp2_with (first | ((with_reducible refine gate_store (t := 4) (p := 72) rfl ?_); refine store_event (t := 4) (p := 72) (v := ?vo_w42) (w1 := (wr.setCell ⟨go37, ((rd t231 x18_2) : Int).toNat, none⟩ (.bool true))) ?hg ?ho ?hn ?hr ?_; (case ho => rfl); (case hg => rfl); (case hn => rfl); (case hr => first | (go_simp; done) | (go_simp; rfl)); intro w42 hw; have hg : wr.grownBy w42 (some go37) := (by rw [hw]; exact HP41.2); have hp_ : Kd.R Kd.bool 4 w42 w.heap.size (fun _ => True) (.slice (some ⟨go37, 0, none⟩) x16_2.length co37) y244 := (by rw [hw, Ny244.out]; exact HP41.1); clear HP41; have n0_ := Aside0.mk (Kd.R_over' (v := (.slice (some ⟨go37, 0, none⟩) x16_2.length co37)) (by (with_reducible repeat first | apply Kd.R_alloc | apply Kd.R_drewN | apply Kd.R_drew); exact HO_12.out) (Kd.R_typed HO_16.out) (by decide) hg); have n1_ := Aside0.mk (Kd.R_over' (v := (.slice (some ⟨go37, 0, none⟩) x16_2.length co37)) (by (with_reducible repeat first | apply Kd.R_alloc | apply Kd.R_drewN | apply Kd.R_drew); exact HO_14.out) (Kd.R_typed HO_16.out) (by decide) hg); have n2_ := Aside0.mk (hp_); have n3_ := Aside0.mk (Kd.R_over' (v := (.slice (some ⟨go37, 0, none⟩) x16_2.length co37)) (by (with_reducible repeat first | apply Kd.R_alloc | apply Kd.R_drewN | apply Kd.R_drew); exact HO_228003.out) (Kd.R_typed HO_16.out) (by decide) hg); have n4_ := Aside0.mk (blk_grown (g := gb227) (o := .cells #[.int .i64 t221, .int .i64 t222, .int .i64 t223, .slice Ao16 t224.length co16] 27 (0, 0)) (by (with_reducible repeat first | refine blk_drewN ?_ _ | refine blk_drew ?_ | refine blk_alloc ?_ _); exact BK227.out) hg (Kd.R_ne HO_16.out BK227.out (by decide))); have n5_ := Aside0.mk ((by rw [hw]; exact below_set (HB.out) GB37.out : Below w.heap.size w w42)); clear HO_12; clear HO_14; clear HO_16; clear HO_228003; clear BK227; clear HB; have HO_12 := n0_; have HO_14 := n1_; have HO_16 := n2_; have HO_228003 := n3_; have BK227 := n4_; have HB := n5_; clear n0_ n1_ n2_ n3_ n4_ n5_; clear hg hw hp_; have p245 : 0 ≤ (x18_2 : Int) := of_decide_eq_true (by first | (with_reducible assumption) | assumption); have q245 : x18_2 < (t231.length : Int) := of_decide_eq_true (by first | (with_reducible assumption) | assumption); obtain ⟨ad245, e245, hx245_0⟩ := Kd.at_int (Kd.R_reads' HO_12.out).2.2 x18_2 p245 q245; obtain rfl : ad242 = ad245 := (by injection e245); replace p245 := eq_true p245; replace q245 := eq_true q245))
               go_roundg k2
               case measure => have := HJ10.out; have := HK2.out; omega
               case rel => exact ⟨(y244), (ji38), (wrap64 (x18_2 + 1)), (by first | rfl | (simp; done) | (simp only [← hji38] <;> (first | rfl | simp)) | (simp [*]; done)), (by first | rfl | (simp; done) | (simp [*]; done)), H', ⟨by have := HJ10.out; have := HK2.out; omega⟩, ⟨by (with_reducible repeat first | apply Kd.R_alloc | apply Kd.R_drewN | apply Kd.R_drew); exact HO_12.out⟩, ⟨by (with_reducible repeat first | apply Kd.R_alloc | apply Kd.R_drewN | apply Kd.R_drew); exact HO_14.out⟩, ⟨by (with_reducible repeat first | apply Kd.R_alloc | apply Kd.R_drewN | apply Kd.R_drew); exact HO_16.out⟩, ⟨by (with_reducible repeat first | apply Kd.R_alloc | apply Kd.R_drewN | apply Kd.R_drew); exact HO_228003.out⟩, ⟨by (with_reducible repeat first | refine blk_drewN ?_ _ | refine blk_drew ?_ | refine blk_alloc ?_ _); exact BK227.out⟩, ⟨by repeat (first | (with_reducible first | exact HB.out | apply below_alloc | apply pw_below_drewN | apply below_drew1 | refine below_set ?_ GE227.out) | exact HB.out)⟩⟩
              ·rw [if_neg c36] at H
               exact absurd H (by simp)
             ·rw [if_neg c35] at H
              exact absurd H (by simp)
            ·rw [if_neg c34] at H
             have c34b0 : decide (0 ≤ (rd t231 x18_2)) = false := decide_eq_false c34
             clear c34
             have H' := Aside0.mk H
             clear H
             have hcz43_0 : wr.cell? ⟨gb227, 0, none⟩ = some (.int .i64 t221) := (blk_cell BK227.out 0).trans rfl
             have hcz43_1 : wr.cell? ⟨gb227, 1, none⟩ = some (.int .i64 t222) := (blk_cell BK227.out 1).trans rfl
             have hcz43_2 : wr.cell? ⟨gb227, 2, none⟩ = some (.int .i64 t223) := (blk_cell BK227.out 2).trans rfl
             have hcz43_3 : wr.cell? ⟨gb227, 3, none⟩ = some (.slice Ao16 t224.length co16) := (blk_cell BK227.out 3).trans rfl
             have hfz43_0 := blk_frozen BK227.out 0
             have hfz43_1 := blk_frozen BK227.out 1
             have hfz43_2 := blk_frozen BK227.out 2
             have hfz43_3 := blk_frozen BK227.out 3
             obtain ⟨Ao44, co44, eo44⟩ := Kd.R_slice HO_12.out
             subst eo44
             have p242 : 0 ≤ (x18_2 : Int) := of_decide_eq_true (by first | (with_reducible assumption) | assumption)
             have q242 : x18_2 < (t231.length : Int) := of_decide_eq_true (by first | (with_reducible assumption) | assumption)
             obtain ⟨ad242, e242, hx242_0⟩ := Kd.at_int (Kd.R_reads' HO_12.out).2.2 x18_2 p242 q242
             cases e242
             replace p242 := eq_true p242
             replace q242 := eq_true q242
             go_wp2
             go_roundg k2
             case measure => have := HJ10.out; have := HK2.out; omega
             case rel => exact ⟨(x16_2), (x17_2), (wrap64 (x18_2 + 1)), (by first | rfl | (simp; done) | (simp [*]; done)), (by first | rfl | (simp; done) | (simp [*]; done)), H', ⟨by have := HJ10.out; have := HK2.out; omega⟩, ⟨by (with_reducible repeat first | apply Kd.R_alloc | apply Kd.R_drewN | apply Kd.R_drew); exact HO_12.out⟩, ⟨by (with_reducible repeat first | apply Kd.R_alloc | apply Kd.R_drewN | apply Kd.R_drew); exact HO_14.out⟩, ⟨by (with_reducible repeat first | apply Kd.R_alloc | apply Kd.R_drewN | apply Kd.R_drew); exact HO_16.out⟩, ⟨by (with_reducible repeat first | apply Kd.R_alloc | apply Kd.R_drewN | apply Kd.R_drew); exact HO_228003.out⟩, ⟨by (with_reducible repeat first | refine blk_drewN ?_ _ | refine blk_drew ?_ | refine blk_alloc ?_ _); exact BK227.out⟩, ⟨by repeat (first | (with_reducible first | exact HB.out | apply below_alloc | apply pw_below_drewN | apply below_drew1 | refine below_set ?_ GE227.out) | exact HB.out)⟩⟩
           ·rw [if_neg c33] at H
            exact absurd H (by simp)
          ·rw [if_neg c32] at H
           exact absurd H (by simp)
         ·rw [if_neg c31] at H
          have c31b0 : decide (x18_2 ≤ t221) = false := decide_eq_false c31
          clear c31
          have H' := Aside0.mk H
          clear H
          have hcz45_0 : wr.cell? ⟨gb227, 0, none⟩ = some (.int .i64 t221) := (blk_cell BK227.out 0).trans rfl
          have hcz45_1 : wr.cell? ⟨gb227, 1, none⟩ = some (.int .i64 t222) := (blk_cell BK227.out 1).trans rfl
          have hcz45_2 : wr.cell? ⟨gb227, 2, none⟩ = some (.int .i64 t223) := (blk_cell BK227.out 2).trans rfl
          have hcz45_3 : wr.cell? ⟨gb227, 3, none⟩ = some (.slice Ao16 t224.length co16) := (blk_cell BK227.out 3).trans rfl
          have hfz45_0 := blk_frozen BK227.out 0
          have hfz45_1 := blk_frozen BK227.out 1
          have hfz45_2 := blk_frozen BK227.out 2
          have hfz45_3 := blk_frozen BK227.out 3
          go_wp2
          go_loopg [19] k2 (fun kq v19 w' => ∃ (x19_3 : Int), v19 = .int .i64 x19_3 ∧ Aside0 (racewaylaw7_LevelFew.l1 kq t231 t235 x16_2 x17_2 x19_3 t221 t222 t223 t224 = some r) ∧ Aside0 (kq ≤ k2) ∧ Aside0 (Kd.R (Kd.int .i64) 3 w' w.heap.size (fun k_ => some k_ ≠ (v236 : Value).ownBlock) v232 t231) ∧ Aside0 (Kd.R (Kd.int .i64) 3 w' w.heap.size (fun k_ => some k_ ≠ (v232 : Value).ownBlock) v236 t235) ∧ Aside0 (Kd.R Kd.bool 4 w' w.heap.size (fun _ => True) v240 x16_2) ∧ Aside0 (Kd.R k49 49 w' w.heap.size (fun _ => True) (.slice Ao16 t224.length co16) t224) ∧ Aside0 (w'.heap[gb227]? = some (.cells #[.int .i64 t221, .int .i64 t222, .int .i64 t223, (.slice Ao16 t224.length co16)] 27 (0, 0))) ∧ Aside0 (Below w.heap.size w w'))
          case atStart => exact ⟨(0), (by first | rfl | (simp; done) | (simp [*]; done)), H', ⟨Nat.le_refl _⟩, ⟨by (with_reducible repeat first | apply Kd.R_alloc | apply Kd.R_drewN | apply Kd.R_drew); exact HO_12.out⟩, ⟨by (with_reducible repeat first | apply Kd.R_alloc | apply Kd.R_drewN | apply Kd.R_drew); exact HO_14.out⟩, ⟨by (with_reducible repeat first | apply Kd.R_alloc | apply Kd.R_drewN | apply Kd.R_drew); exact HO_16.out⟩, ⟨by (with_reducible repeat first | apply Kd.R_alloc | apply Kd.R_drewN | apply Kd.R_drew); exact HO_228003.out⟩, ⟨by (with_reducible repeat first | refine blk_drewN ?_ _ | refine blk_drew ?_ | refine blk_alloc ?_ _); exact BK227.out⟩, ⟨by repeat (first | (with_reducible first | exact HB.out | apply below_alloc | apply pw_below_drewN | apply below_drew1 | refine below_set ?_ GE227.out) | exact HB.out)⟩⟩
          case round =>
           clear H'
           try clear c2
           try clear p2
           try clear q2
           try clear hx2
           try clear c3
           try clear p3
           try clear q3
           try clear hx3
           try clear c5
           try clear c6
           try clear p6
           try clear c22
           try clear c23
           try clear c23b0
           try clear c23b1
           try clear c24
           try clear p24
           try clear q24
           try clear hx24
           try clear c26
           try clear c26b0
           try clear c26b1
           try clear c27
           try clear c27b0
           try clear c27b1
           try clear c31
           try clear c31b0
           try clear c32
           try clear c32b0
           try clear c33
           try clear c33b0
           try clear c34
           try clear c34b0
           try clear c35
           try clear c35b0
           try clear c36
           try clear c36b0
           try clear p37
           try clear q37
           try clear hx37
           try clear hf37
           try clear hcz15_0
           try clear hcz15_1
           try clear hcz15_2
           try clear hcz15_3
           try clear hcz18_0
           try clear hcz18_1
           try clear hcz18_2
           try clear hcz18_3
           try clear hcz21_0
           try clear hcz21_1
           try clear hcz21_2
           try clear hcz21_3
           try clear hcz28_0
           try clear hcz28_1
           try clear hcz28_2
           try clear hcz28_3
           try clear hcz39_0
           try clear hcz39_1
           try clear hcz39_2
           try clear hcz39_3
           try clear hcz43_0
           try clear hcz43_1
           try clear hcz43_2
           try clear hcz43_3
           try clear hcz45_0
           try clear hcz45_1
           try clear hcz45_2
           try clear hcz45_3
           try clear hfz15_0
           try clear hfz15_1
           try clear hfz15_2
           try clear hfz15_3
           try clear hfz18_0
           try clear hfz18_1
           try clear hfz18_2
           try clear hfz18_3
           try clear hfz21_0
           try clear hfz21_1
           try clear hfz21_2
           try clear hfz21_3
           try clear hfz28_0
           try clear hfz28_1
           try clear hfz28_2
           try clear hfz28_3
           try clear hfz39_0
           try clear hfz39_1
           try clear hfz39_2
           try clear hfz39_3
           try clear hfz43_0
           try clear hfz43_1
           try clear hfz43_2
           try clear hfz43_3
           try clear hfz45_0
           try clear hfz45_1
           try clear hfz45_2
           try clear hfz45_3
           try clear hx242_0
           try clear hx243_0
           try clear hx245_0
           try clear hx37_0
           try clear p2
           try clear p242
           try clear p243
           try clear p245
           try clear p37
           try clear p6
           try clear q242
           try clear q243
           try clear q245
           try clear q37
           obtain ⟨x19_3, rfl, HA, HK3, HO_12, HO_14, HO_16, HO_228003, BK227, HB⟩ := hrel
           cases gk with
           | zero => exact absurd HA.out (by simp [racewaylaw7_LevelFew.l1])
           | succ k3 =>
            have H := HA.out
            clear HA
            simp only [racewaylaw7_LevelFew.l1] at H
            by_cases c46 : x19_3 ≤ x17_2
            ·rw [if_pos c46] at H
             have c46b0 : decide (x19_3 ≤ x17_2) = true := decide_eq_true c46
             clear c46
             by_cases c47 : 0 ≤ x19_3
             ·rw [if_pos c47] at H
              have c47b0 : decide (0 ≤ x19_3) = true := decide_eq_true c47
              clear c47
              by_cases c48 : x19_3 < (x16_2.length : Int)
              ·rw [if_pos c48] at H
               have c48b0 : decide (x19_3 < (x16_2.length : Int)) = true := decide_eq_true c48
               clear c48
               obtain ⟨bq49, hbq49⟩ : ∃ b_ : Bool, b_ = (rdOf false x16_2 x19_3) := ⟨_, rfl⟩
               replace H : (if bq49 = true then (racewaylaw7_LevelFew.l1 k3 t231 t235 x16_2 x17_2 (wrap64 (x19_3 + 1)) t221 t222 t223 t224) else (some false)) = some r := by rw [← hbq49] at H; exact H
               have Nbq49 := Aside0.mk hbq49
               clear hbq49
               by_cases c50 : bq49 = true
               ·subst c50
                have H1 : (racewaylaw7_LevelFew.l1 k3 t231 t235 x16_2 x17_2 (wrap64 (x19_3 + 1)) t221 t222 t223 t224) = some r := by rw [if_pos rfl] at H; exact H
                clear H
                have H := H1
                clear H1
                have H' := Aside0.mk H
                clear H
                obtain ⟨Ao51, co51, eo51⟩ := Kd.R_slice HO_16.out
                subst eo51
                have p246 : 0 ≤ (x19_3 : Int) := of_decide_eq_true (by first | (with_reducible assumption) | assumption)
                have q246 : x19_3 < (x16_2.length : Int) := of_decide_eq_true (by first | (with_reducible assumption) | assumption)
                obtain ⟨ad246, e246, hx246_0⟩ := Kd.at_bool (Kd.R_reads' HO_16.out).2.2 x19_3 p246 q246
                (try rw [← Nbq49.out] at hx246_0)
                cases e246
                replace p246 := eq_true p246
                replace q246 := eq_true q246
                go_wp2
                go_roundg k3
                case measure => have := HJ10.out; have := HK2.out; have := HK3.out; omega
                case rel => exact ⟨(wrap64 (x19_3 + 1)), (by first | rfl | (simp; done) | (simp [*]; done)), H', ⟨by have := HJ10.out; have := HK2.out; have := HK3.out; omega⟩, ⟨by (with_reducible repeat first | apply Kd.R_alloc | apply Kd.R_drewN | apply Kd.R_drew); exact HO_12.out⟩, ⟨by (with_reducible repeat first | apply Kd.R_alloc | apply Kd.R_drewN | apply Kd.R_drew); exact HO_14.out⟩, ⟨by (with_reducible repeat first | apply Kd.R_alloc | apply Kd.R_drewN | apply Kd.R_drew); exact HO_16.out⟩, ⟨by (with_reducible repeat first | apply Kd.R_alloc | apply Kd.R_drewN | apply Kd.R_drew); exact HO_228003.out⟩, ⟨by (with_reducible repeat first | refine blk_drewN ?_ _ | refine blk_drew ?_ | refine blk_alloc ?_ _); exact BK227.out⟩, ⟨by repeat (first | (with_reducible first | exact HB.out | apply below_alloc | apply pw_below_drewN | apply below_drew1 | refine below_set ?_ GE227.out) | exact HB.out)⟩⟩
               ·replace c50 := Bool.eq_false_iff.mpr c50
                subst c50
                have H1 : (some false) = some r := by rw [if_neg (show ¬ (false = true) by decide)] at H; exact H
                clear H
                have H := H1
                clear H1
                exact absurd ((Option.some.inj H).trans hrT_.out) (by simp)
              ·rw [if_neg c48] at H
               exact absurd H (by simp)
             ·rw [if_neg c47] at H
              exact absurd H (by simp)
            ·rw [if_neg c46] at H
             have c46b0 : decide (x19_3 ≤ x17_2) = false := decide_eq_false c46
             clear c46
             have H' := Aside0.mk H
             clear H
             go_wp2
             go_loopg [20] k3 (fun kq v20 w' => ∃ (x20_4 : Int), v20 = .int .i64 x20_4 ∧ Aside0 (racewaylaw7_LevelFew.l2 kq t231 t235 x20_4 t221 t222 t223 t224 = some r) ∧ Aside0 (kq ≤ k3) ∧ Aside0 (Kd.R (Kd.int .i64) 3 w' w.heap.size (fun k_ => some k_ ≠ (v236 : Value).ownBlock) v232 t231) ∧ Aside0 (Kd.R (Kd.int .i64) 3 w' w.heap.size (fun k_ => some k_ ≠ (v232 : Value).ownBlock) v236 t235) ∧ Aside0 (Kd.R k49 49 w' w.heap.size (fun _ => True) (.slice Ao16 t224.length co16) t224) ∧ Aside0 (w'.heap[gb227]? = some (.cells #[.int .i64 t221, .int .i64 t222, .int .i64 t223, (.slice Ao16 t224.length co16)] 27 (0, 0))) ∧ Aside0 (Below w.heap.size w w'))
             case atStart => exact ⟨(0), (by first | rfl | (simp; done) | (simp [*]; done)), H', ⟨Nat.le_refl _⟩, ⟨by (with_reducible repeat first | apply Kd.R_alloc | apply Kd.R_drewN | apply Kd.R_drew); exact HO_12.out⟩, ⟨by (with_reducible repeat first | apply Kd.R_alloc | apply Kd.R_drewN | apply Kd.R_drew); exact HO_14.out⟩, ⟨by (with_reducible repeat first | apply Kd.R_alloc | apply Kd.R_drewN | apply Kd.R_drew); exact HO_228003.out⟩, ⟨by (with_reducible repeat first | refine blk_drewN ?_ _ | refine blk_drew ?_ | refine blk_alloc ?_ _); exact BK227.out⟩, ⟨by repeat (first | (with_reducible first | exact HB.out | apply below_alloc | apply pw_below_drewN | apply below_drew1 | refine below_set ?_ GE227.out) | exact HB.out)⟩⟩
             case round =>
              clear H'
              try clear c2
              try clear p2
              try clear q2
              try clear hx2
              try clear c3
              try clear p3
              try clear q3
              try clear hx3
              try clear c4
              try clear q4
              try clear c5
              try clear c6
              try clear p6
              try clear c22
              try clear c23
              try clear c23b0
              try clear c23b1
              try clear c24
              try clear p24
              try clear q24
              try clear hx24
              try clear c26
              try clear c26b0
              try clear c26b1
              try clear c27
              try clear c27b0
              try clear c27b1
              try clear c31
              try clear c31b0
              try clear c32
              try clear c32b0
              try clear c33
              try clear c33b0
              try clear c34
              try clear c34b0
              try clear c35
              try clear c35b0
              try clear c36
              try clear c36b0
              try clear p37
              try clear q37
              try clear hx37
              try clear hf37
              try clear c46
              try clear c46b0
              try clear c47
              try clear c47b0
              try clear c48
              try clear c48b0
              try clear q49
              try clear c50
              try clear hcz15_0
              try clear hcz15_1
              try clear hcz15_2
              try clear hcz15_3
              try clear hcz18_0
              try clear hcz18_1
              try clear hcz18_2
              try clear hcz18_3
              try clear hcz21_0
              try clear hcz21_1
              try clear hcz21_2
              try clear hcz21_3
              try clear hcz28_0
              try clear hcz28_1
              try clear hcz28_2
              try clear hcz28_3
              try clear hcz39_0
              try clear hcz39_1
              try clear hcz39_2
              try clear hcz39_3
              try clear hcz43_0
              try clear hcz43_1
              try clear hcz43_2
              try clear hcz43_3
              try clear hcz45_0
              try clear hcz45_1
              try clear hcz45_2
              try clear hcz45_3
              try clear hfz15_0
              try clear hfz15_1
              try clear hfz15_2
              try clear hfz15_3
              try clear hfz18_0
              try clear hfz18_1
              try clear hfz18_2
              try clear hfz18_3
              try clear hfz21_0
              try clear hfz21_1
              try clear hfz21_2
              try clear hfz21_3
              try clear hfz28_0
              try clear hfz28_1
              try clear hfz28_2
              try clear hfz28_3
              try clear hfz39_0
              try clear hfz39_1
              try clear hfz39_2
              try clear hfz39_3
              try clear hfz43_0
              try clear hfz43_1
              try clear hfz43_2
              try clear hfz43_3
              try clear hfz45_0
              try clear hfz45_1
              try clear hfz45_2
              try clear hfz45_3
              try clear hx242_0
              try clear hx243_0
              try clear hx245_0
              try clear hx246_0
              try clear hx37_0
              try clear p2
              try clear p24
              try clear p242
              try clear p243
              try clear p245
              try clear p246
              try clear p3
              try clear p37
              try clear p6
              try clear q2
              try clear q24
              try clear q242
              try clear q243
              try clear q245
              try clear q246
              try clear q3
              try clear q37
              obtain ⟨x20_4, rfl, HA, HK4, HO_12, HO_14, HO_228003, BK227, HB⟩ := hrel
              cases gk with
              | zero => exact absurd HA.out (by simp [racewaylaw7_LevelFew.l2])
              | succ k4 =>
               have H := HA.out
               clear HA
               simp only [racewaylaw7_LevelFew.l2] at H
               by_cases c52 : x20_4 < (t235.length : Int)
               ·rw [if_pos c52] at H
                have c52b0 : decide (x20_4 < (t235.length : Int)) = true := decide_eq_true c52
                clear c52
                by_cases c53 : 0 ≤ x20_4
                ·rw [if_pos c53] at H
                 have c53b0 : decide (0 ≤ x20_4) = true := decide_eq_true c53
                 clear c53
                 replace H := Option.bind_eq_some_iff.mp H
                 obtain ⟨⟨t248, t249⟩, A540, H⟩ := H
                 replace H : (if t249 = t222 then (racewaylaw7_LevelFew.j4 k4 t231 t235 x20_4 true t221 t222 t223 t224) else (if t248 = t249 then (racewaylaw7_LevelFew.j4 k4 t231 t235 x20_4 true t221 t222 t223 t224) else (if 0 ≤ t248 then (if t248 < (t231.length : Int) then (if 0 ≤ t249 then (if t249 < (t231.length : Int) then (racewaylaw7_LevelFew.j4 k4 t231 t235 x20_4 (decide ((rd t231 t248) ≥ (rd t231 t249))) t221 t222 t223 t224) else (none)) else (none)) else (none)) else (none)))) = some r := H
                 have A54 := Aside0.mk A540
                 clear A540
                 have HC55 := Aside0.mk H
                 clear H
                 obtain ⟨Ao56, co56, eo56⟩ := Kd.R_slice HO_14.out
                 subst eo56
                 try go_wp2
                 have n0_ := Aside0.mk (Kd.R_drew HO_12.out)
                 have n1_ := Aside0.mk (Kd.R_drew HO_14.out)
                 have n2_ := Aside0.mk (Kd.R_drew HO_228003.out)
                 have n3_ := Aside0.mk (blk_drew BK227.out)
                 have n4_ := Aside0.mk (below_drew1 HB.out)
                 clear HO_12
                 clear HO_14
                 clear HO_228003
                 clear BK227
                 clear HB
                 have HO_12 := n0_
                 have HO_14 := n1_
                 have HO_228003 := n2_
                 have BK227 := n3_
                 have HB := n4_
                 clear n0_ n1_ n2_ n3_ n4_
                 have p247 : 0 ≤ (x20_4 : Int) := of_decide_eq_true (by first | (with_reducible assumption) | assumption)
                 have q247 : x20_4 < (t235.length : Int) := of_decide_eq_true (by first | (with_reducible assumption) | assumption)
                 obtain ⟨ad247, e247, hx247_0⟩ := Kd.at_int (Kd.R_reads' HO_14.out).2.2 x20_4 p247 q247
                 cases e247
                 replace p247 := eq_true p247
                 replace q247 := eq_true q247
                 refine start_ (n := 11) (S := fun w' => w'.cell? ⟨gb227, 0, none⟩ = some (.int .i64 t221) ∧ w'.cell? ⟨gb227, 1, none⟩ = some (.int .i64 t222) ∧ w'.cell? ⟨gb227, 2, none⟩ = some (.int .i64 t223) ∧ w'.cell? ⟨gb227, 3, none⟩ = some (.slice Ao16 t224.length co16) ∧ w'.cell? (ad247.add (x20_4).toNat) = some (.int .i64 (rd t235 x20_4))) (ds := []) #[false, false, false, false, false, false, false, false, false, false, false] (by kernel_rfl) rfl rfl ⟨(blk_cell BK227.out 0).trans rfl, (blk_cell BK227.out 1).trans rfl, (blk_cell BK227.out 2).trans rfl, (blk_cell BK227.out 3).trans rfl, hx247_0⟩ (fun hHeld => ?_); refine with_tabW racewaylaw7_LevelFew.tab26 racewaylaw7_LevelFew.bits26 (fun HT_ HW_ => ?_)
                 generalize wr.drew = w57 at HO_12 HO_14 HO_228003 BK227 HB hx247_0 hHeld ⊢
                 refine pure_ (i := 1) (N := some 97) (v := ?_) (a' := ?_) #[false, true, false, false, false, false, false, false, false, false, false] rfl rfl (any_of HT_.out (by kernel_rfl)) (fun _ _ _ h => h) (Or.inl ⟨by rfl, ?_⟩) ?_ ?_
                 rotate_left
                 ·intro w'
                  go_simp
                  with_reducible rfl
                 rotate_left
                 ·simp only [Act.put, List.setIfInBounds_toArray, List.set_cons_zero, List.set_cons_succ, i64_w, i32_w]
                  rfl
                 refine pure_ (i := 2) (N := some 98) (v := ?_) (a' := ?_) #[false, true, true, false, false, false, false, false, false, false, false] rfl rfl (any_of HT_.out (by kernel_rfl)) (fun _ _ _ h => h) (Or.inl ⟨by rfl, ?_⟩) ?_ ?_
                 rotate_left
                 ·intro w'
                  go_simp
                  with_reducible rfl
                 rotate_left
                 ·simp only [Act.put, List.setIfInBounds_toArray, List.set_cons_zero, List.set_cons_succ, i64_w, i32_w]
                  rfl
                 refine pure_ (i := 3) (N := some 99) (v := ?_) (a' := ?_) #[false, true, true, true, false, false, false, false, false, false, false] rfl rfl (any_of HT_.out (by kernel_rfl)) (fun _ _ _ h => h) (Or.inl ⟨by rfl, ?_⟩) ?_ ?_
                 rotate_left
                 ·intro w'
                  go_simp
                  with_reducible rfl
                 rotate_left
                 ·simp only [Act.put, List.setIfInBounds_toArray, List.set_cons_zero, List.set_cons_succ, i64_w, i32_w]
                  rfl
                 refine take_ (i := 0) (N := some 96) (v := ?_) (a' := ?_) #[true, true, true, true, false, false, false, false, false, false, false] rfl rfl (take_ofW HT_.out HW_.out (by kernel_rfl)) (fun _ _ _ h => h) (Or.inl ⟨by rfl, ?_⟩) hHeld ?_ ?_
                 rotate_left
                 ·rintro w' ⟨s0, s1, s2, s3, s4⟩
                  go_simp
                  with_reducible rfl
                 rotate_left
                 ·simp only [Act.put, List.setIfInBounds_toArray, List.set_cons_zero, List.set_cons_succ, i64_w, i32_w]
                  rfl
                 refine take_ (i := 4) (N := some 100) (v := ?_) (a' := ?_) #[true, true, true, true, true, false, false, false, false, false, false] rfl rfl (take_ofW HT_.out HW_.out (by kernel_rfl)) (fun _ _ _ h => h) (Or.inl ⟨by rfl, ?_⟩) hHeld ?_ ?_
                 rotate_left
                 ·rintro w' ⟨s0, s1, s2, s3, s4⟩
                  go_simp
                  with_reducible rfl
                 rotate_left
                 ·simp only [Act.put, List.setIfInBounds_toArray, List.set_cons_zero, List.set_cons_succ, i64_w, i32_w]
                  rfl
                 refine one_ (i := 5) (N := some 101) #[true, true, true, true, true, true, false, false, false, false, false] rfl rfl (one_of HT_.out (by kernel_rfl)) (by decide) (fun K hK => ?_)
                 refine goes_ Try.func21 (by kernel_rfl) rfl #[.agg #[.int .i64 t221, .int .i64 t222, .int .i64 t223, .slice Ao16 t224.length co16], .int .i64 (rd t235 x20_4)] (by rfl) rfl rfl (by (try simp only [List.map_toArray, List.map_cons, List.map_nil]); first | done | rfl | (simp only [List.length_drop, List.length_take]; rfl)) ?_
                 with_reducible refine (residual_Ends.calls k4 t221 t222 t223 _ _ t224 (rd t235 x20_4) t248 t249 _ ?side1 ?side2 A54.out).mono ?_
                 (case side1 => repeat (first | exact (Kd.R_reads' HO_228003.out).2.2 | (with_reducible refine Kd.C_alloc ?_ _) | (with_reducible refine Kd.C_drewN ?_ _) | (with_reducible refine Kd.C_drew ?_)))
                 (case side2 => exact (Kd.R_reads' HO_228003.out).2.1)
                 rintro e w58 ⟨rfl, hb⟩
                 have HS4_ := (hb.cell (World.block_lt_of_cell? _ _ (hHeld.2.2.2.2))).trans (hHeld.2.2.2.2)
                 refine ⟨_, rfl, ?_⟩
                 have n0_ := Aside0.mk (Kd.R_below (by (with_reducible repeat first | apply Kd.R_alloc | apply Kd.R_drewN | apply Kd.R_drew); exact HO_12.out) hb)
                 have n1_ := Aside0.mk (Kd.R_below (by (with_reducible repeat first | apply Kd.R_alloc | apply Kd.R_drewN | apply Kd.R_drew); exact HO_14.out) hb)
                 have n2_ := Aside0.mk (Kd.R_below (by (with_reducible repeat first | apply Kd.R_alloc | apply Kd.R_drewN | apply Kd.R_drew); exact HO_228003.out) hb)
                 have n3_ := Aside0.mk (blk_below (g := gb227) (o := .cells #[.int .i64 t221, .int .i64 t222, .int .i64 t223, .slice Ao16 t224.length co16] 27 (0, 0)) (by (with_reducible repeat first | refine blk_drewN ?_ _ | refine blk_drew ?_ | refine blk_alloc ?_ _); exact BK227.out) hb)
                 have n4_ := Aside0.mk (below_step (by repeat (first | (with_reducible first | exact HB.out | apply below_alloc | apply pw_below_drewN | apply below_drew1 | refine below_set ?_ GE227.out) | exact HB.out)) hb)
                 clear HO_12
                 clear HO_14
                 clear HO_228003
                 clear BK227
                 clear HB
                 have HO_12 := n0_
                 have HO_14 := n1_
                 have HO_228003 := n2_
                 have BK227 := n3_
                 have HB := n4_
                 clear n0_ n1_ n2_ n3_ n4_
                 (try clear hb)
                 (try clear hb2)
                 (try clear hk)
                 (try clear hi)
                 refine hK.out _ _ ⟨(blk_cell BK227.out 0).trans rfl, (blk_cell BK227.out 1).trans rfl, (blk_cell BK227.out 2).trans rfl, (blk_cell BK227.out 3).trans rfl, HS4_⟩ (fun hHeld => ?_)
                 clear hK K
                 refine norm_ (a' := ?_) ?_ ?_
                 rotate_left
                 ·show Act.put _ (some 101) _ = _
                  simp only [Act.put, List.setIfInBounds_toArray, List.set_cons_zero, List.set_cons_succ, i64_w, i32_w]
                  rfl
                 refine pure_ (i := 6) (N := some 95) (v := ?_) (a' := ?_) #[true, true, true, true, true, true, true, false, false, false, false] rfl rfl (any_of HT_.out (by kernel_rfl)) (fun _ _ _ h => h) (Or.inl ⟨by rfl, ?_⟩) ?_ ?_
                 rotate_left
                 ·intro w'
                  go_simp
                  with_reducible rfl
                 rotate_left
                 ·simp only [Act.put, List.setIfInBounds_toArray, List.set_cons_zero, List.set_cons_succ, i64_w, i32_w]
                  rfl
                 refine pure_ (i := 7) (N := some 102) (v := ?_) (a' := ?_) #[true, true, true, true, true, true, true, true, false, false, false] rfl rfl (any_of HT_.out (by kernel_rfl)) (fun _ _ _ h => h) (Or.inl ⟨by rfl, ?_⟩) ?_ ?_
                 rotate_left
                 ·intro w'
                  go_simp
                  with_reducible rfl
                 rotate_left
                 ·simp only [Act.put, List.setIfInBounds_toArray, List.set_cons_zero, List.set_cons_succ, i64_w, i32_w]
                  rfl
                 refine pure_ (i := 8) (N := some 103) (v := ?_) (a' := ?_) #[true, true, true, true, true, true, true, true, true, false, false] rfl rfl (any_of HT_.out (by kernel_rfl)) (fun _ _ _ h => h) (Or.inl ⟨by rfl, ?_⟩) ?_ ?_
                 rotate_left
                 ·intro w'
                  go_simp
                  with_reducible rfl
                 rotate_left
                 ·simp only [Act.put, List.setIfInBounds_toArray, List.set_cons_zero, List.set_cons_succ, i64_w, i32_w]
                  rfl
                 refine pure_ (i := 9) (N := some 21) (v := ?_) (a' := ?_) #[true, true, true, true, true, true, true, true, true, true, false] rfl rfl (any_of HT_.out (by kernel_rfl)) (fun _ _ _ h => h) (Or.inl ⟨by rfl, ?_⟩) ?_ ?_
                 rotate_left
                 ·intro w'
                  go_simp
                  with_reducible rfl
                 rotate_left
                 ·simp only [Act.put, List.setIfInBounds_toArray, List.set_cons_zero, List.set_cons_succ, i64_w, i32_w]
                  rfl
                 refine pure_ (i := 10) (N := some 22) (v := ?_) (a' := ?_) #[true, true, true, true, true, true, true, true, true, true, true] rfl rfl (any_of HT_.out (by kernel_rfl)) (fun _ _ _ h => h) (Or.inl ⟨by rfl, ?_⟩) ?_ ?_
                 rotate_left
                 ·intro w'
                  go_simp
                  with_reducible rfl
                 rotate_left
                 ·simp only [Act.put, List.setIfInBounds_toArray, List.set_cons_zero, List.set_cons_succ, i64_w, i32_w]
                  rfl
                 refine done_ (done_of HT_.out (by kernel_rfl)) ?_
                 go_upto_region 27 with (fail)
                 go_cut [123] (fun v123 wc => ∃ (kq : Nat) (x123_54 : Bool), v123 = .bool x123_54 ∧ Aside0 (racewaylaw7_LevelFew.j4 kq t231 t235 x20_4 x123_54 t221 t222 t223 t224 = some r) ∧ Aside0 (kq ≤ k4) ∧ Aside0 (Kd.R (Kd.int .i64) 3 wc w.heap.size (fun k_ => some k_ ≠ ((.slice (some ad247) t235.length co56) : Value).ownBlock) v232 t231) ∧ Aside0 (Kd.R (Kd.int .i64) 3 wc w.heap.size (fun k_ => some k_ ≠ (v232 : Value).ownBlock) (.slice (some ad247) t235.length co56) t235) ∧ Aside0 (Kd.R k49 49 wc w.heap.size (fun _ => True) (.slice Ao16 t224.length co16) t224) ∧ Aside0 (wc.heap[gb227]? = some (.cells #[.int .i64 t221, .int .i64 t222, .int .i64 t223, (.slice Ao16 t224.length co16)] 27 (0, 0))) ∧ Aside0 (Below w.heap.size w wc))
                 case first =>
                  have H := HC55.out
                  clear HC55
                  by_cases c59 : t249 = t222
                  ·rw [if_pos c59] at H
                   have c59b0 : (t249 == t222) = true := beq_iff_eq.mpr c59
                   have c59b1 : (t249 != t222) = false := bne_eq_false_iff_eq.mpr c59
                   clear c59
                   (first | rw [c59b0] | (simp only [i64_w, i32_w]; rw [c59b0]) | skip)
                   have H' := Aside0.mk H
                   clear H
                   try go_wp2
                   have n0_ := Aside0.mk (Kd.R_drew HO_12.out)
                   have n1_ := Aside0.mk (Kd.R_drew HO_14.out)
                   have n2_ := Aside0.mk (Kd.R_drew HO_228003.out)
                   have n3_ := Aside0.mk (blk_drew BK227.out)
                   have n4_ := Aside0.mk (below_drew1 HB.out)
                   clear HO_12
                   clear HO_14
                   clear HO_228003
                   clear BK227
                   clear HB
                   have HO_12 := n0_
                   have HO_14 := n1_
                   have HO_228003 := n2_
                   have BK227 := n3_
                   have HB := n4_
                   clear n0_ n1_ n2_ n3_ n4_
                   refine start_ (n := 20) (S := fun w' => w'.cell? ⟨gb227, 0, none⟩ = some (.int .i64 t221) ∧ w'.cell? ⟨gb227, 1, none⟩ = some (.int .i64 t222) ∧ w'.cell? ⟨gb227, 2, none⟩ = some (.int .i64 t223) ∧ w'.cell? ⟨gb227, 3, none⟩ = some (.slice Ao16 t224.length co16)) (ds := []) #[false, false, false, false, false, false, false, false, false, false, false, false, false, false, false, false, false, false, false, false] (by kernel_rfl) rfl rfl ⟨(blk_cell BK227.out 0).trans rfl, (blk_cell BK227.out 1).trans rfl, (blk_cell BK227.out 2).trans rfl, (blk_cell BK227.out 3).trans rfl⟩ (fun hHeld => ?_); refine with_tabW racewaylaw7_LevelFew.tab27 racewaylaw7_LevelFew.bits27 (fun HT_ HW_ => ?_)
                   generalize w58.drew = w60 at HO_12 HO_14 HO_228003 BK227 HB hHeld ⊢
                   refine pure_ (i := 0) (N := some 104) (v := ?_) (a' := ?_) #[true, false, false, false, false, false, false, false, false, false, false, false, false, false, false, false, false, false, false, false] rfl rfl (any_of HT_.out (by kernel_rfl)) (fun _ _ _ h => h) (Or.inl ⟨by rfl, ?_⟩) ?_ ?_
                   rotate_left
                   ·intro w'
                    go_simp
                    with_reducible rfl
                   rotate_left
                   ·simp only [Act.put, List.setIfInBounds_toArray, List.set_cons_zero, List.set_cons_succ, i64_w, i32_w]
                    rfl
                   refine pure_ (i := 1) (N := some 105) (v := ?_) (a' := ?_) #[true, true, false, false, false, false, false, false, false, false, false, false, false, false, false, false, false, false, false, false] rfl rfl (any_of HT_.out (by kernel_rfl)) (fun _ _ _ h => h) (Or.inl ⟨by rfl, ?_⟩) ?_ ?_
                   rotate_left
                   ·intro w'
                    go_simp
                    with_reducible rfl
                   rotate_left
                   ·simp only [Act.put, List.setIfInBounds_toArray, List.set_cons_zero, List.set_cons_succ, i64_w, i32_w]
                    rfl
                   refine take_ (i := 2) (N := some 106) (v := ?_) (a' := ?_) #[true, true, true, false, false, false, false, false, false, false, false, false, false, false, false, false, false, false, false, false] rfl rfl (take_ofW HT_.out HW_.out (by kernel_rfl)) (fun _ _ _ h => h) (Or.inl ⟨by rfl, ?_⟩) hHeld ?_ ?_
                   rotate_left
                   ·rintro w' ⟨s0, s1, s2, s3⟩
                    go_simp
                    with_reducible rfl
                   rotate_left
                   ·simp only [Act.put, List.setIfInBounds_toArray, List.set_cons_zero, List.set_cons_succ, i64_w, i32_w]
                    rfl
                   refine pure_ (i := 3) (N := some 107) (v := ?_) (a' := ?_) #[true, true, true, true, false, false, false, false, false, false, false, false, false, false, false, false, false, false, false, false] rfl rfl (any_of HT_.out (by kernel_rfl)) (fun _ _ _ h => h) (Or.inl ⟨by rfl, ?_⟩) ?_ ?_
                   rotate_left
                   ·intro w'
                    go_simp
                    with_reducible rfl
                   rotate_left
                   ·simp only [Act.put, List.setIfInBounds_toArray, List.set_cons_zero, List.set_cons_succ, i64_w, i32_w]
                    rfl
                   refine pure_ (i := 4) (N := some 108) (v := ?_) (a' := ?_) #[true, true, true, true, true, false, false, false, false, false, false, false, false, false, false, false, false, false, false, false] rfl rfl (any_of HT_.out (by kernel_rfl)) (fun _ _ _ h => h) (Or.inl ⟨by rfl, ?_⟩) ?_ ?_
                   rotate_left
                   ·intro w'
                    go_simp
                    with_reducible rfl
                   rotate_left
                   ·simp only [Act.put, List.setIfInBounds_toArray, List.set_cons_zero, List.set_cons_succ, i64_w, i32_w]
                    rfl
                   refine pure_ (i := 5) (N := some 109) (v := undef) (a' := ?_) #[true, true, true, true, true, true, false, false, false, false, false, false, false, false, false, false, false, false, false, false] rfl rfl (any_of HT_.out (by kernel_rfl)) (fun _ _ _ h => h) (Or.inr ⟨by rfl, rfl⟩) ?_ ?_
                   rotate_left
                   ·simp only [Act.put, List.setIfInBounds_toArray, List.set_cons_zero, List.set_cons_succ, i64_w, i32_w]
                    rfl
                   refine pure_ (i := 6) (N := some 110) (v := undef) (a' := ?_) #[true, true, true, true, true, true, true, false, false, false, false, false, false, false, false, false, false, false, false, false] rfl rfl (any_of HT_.out (by kernel_rfl)) (fun _ _ _ h => h) (Or.inr ⟨by rfl, rfl⟩) ?_ ?_
                   rotate_left
                   ·simp only [Act.put, List.setIfInBounds_toArray, List.set_cons_zero, List.set_cons_succ, i64_w, i32_w]
                    rfl
                   refine pure_ (i := 7) (N := some 111) (v := undef) (a' := ?_) #[true, true, true, true, true, true, true, true, false, false, false, false, false, false, false, false, false, false, false, false] rfl rfl (any_of HT_.out (by kernel_rfl)) (fun _ _ _ h => h) (Or.inr ⟨by rfl, rfl⟩) ?_ ?_
                   rotate_left
                   ·simp only [Act.put, List.setIfInBounds_toArray, List.set_cons_zero, List.set_cons_succ, i64_w, i32_w]
                    rfl
                   refine pure_ (i := 8) (N := some 112) (v := ?_) (a' := ?_) #[true, true, true, true, true, true, true, true, true, false, false, false, false, false, false, false, false, false, false, false] rfl rfl (any_of HT_.out (by kernel_rfl)) (fun _ _ _ h => h) (Or.inl ⟨by rfl, ?_⟩) ?_ ?_
                   rotate_left
                   ·intro w'
                    go_simp
                    with_reducible rfl
                   rotate_left
                   ·simp only [Act.put, List.setIfInBounds_toArray, List.set_cons_zero, List.set_cons_succ, i64_w, i32_w]
                    rfl
                   refine pure_ (i := 9) (N := some 113) (v := ?_) (a' := ?_) #[true, true, true, true, true, true, true, true, true, true, false, false, false, false, false, false, false, false, false, false] rfl rfl (any_of HT_.out (by kernel_rfl)) (fun _ _ _ h => h) (Or.inl ⟨by rfl, ?_⟩) ?_ ?_
                   rotate_left
                   ·intro w'
                    go_simp
                    with_reducible rfl
                   rotate_left
                   ·simp only [Act.put, List.setIfInBounds_toArray, List.set_cons_zero, List.set_cons_succ, i64_w, i32_w]
                    rfl
                   refine pure_ (i := 10) (N := some 114) (v := undef) (a' := ?_) #[true, true, true, true, true, true, true, true, true, true, true, false, false, false, false, false, false, false, false, false] rfl rfl (any_of HT_.out (by kernel_rfl)) (fun _ _ _ h => h) (Or.inr ⟨by rfl, rfl⟩) ?_ ?_
                   rotate_left
                   ·simp only [Act.put, List.setIfInBounds_toArray, List.set_cons_zero, List.set_cons_succ, i64_w, i32_w]
                    rfl
                   refine pure_ (i := 11) (N := some 115) (v := undef) (a' := ?_) #[true, true, true, true, true, true, true, true, true, true, true, true, false, false, false, false, false, false, false, false] rfl rfl (any_of HT_.out (by kernel_rfl)) (fun _ _ _ h => h) (Or.inr ⟨by rfl, rfl⟩) ?_ ?_
                   rotate_left
                   ·simp only [Act.put, List.setIfInBounds_toArray, List.set_cons_zero, List.set_cons_succ, i64_w, i32_w]
                    rfl
                   refine pure_ (i := 12) (N := some 116) (v := undef) (a' := ?_) #[true, true, true, true, true, true, true, true, true, true, true, true, true, false, false, false, false, false, false, false] rfl rfl (any_of HT_.out (by kernel_rfl)) (fun _ _ _ h => h) (Or.inr ⟨by rfl, rfl⟩) ?_ ?_
                   rotate_left
                   ·simp only [Act.put, List.setIfInBounds_toArray, List.set_cons_zero, List.set_cons_succ, i64_w, i32_w]
                    rfl
                   refine pure_ (i := 13) (N := some 117) (v := undef) (a' := ?_) #[true, true, true, true, true, true, true, true, true, true, true, true, true, true, false, false, false, false, false, false] rfl rfl (any_of HT_.out (by kernel_rfl)) (fun _ _ _ h => h) (Or.inr ⟨by rfl, rfl⟩) ?_ ?_
                   rotate_left
                   ·simp only [Act.put, List.setIfInBounds_toArray, List.set_cons_zero, List.set_cons_succ, i64_w, i32_w]
                    rfl
                   refine pure_ (i := 14) (N := some 118) (v := undef) (a' := ?_) #[true, true, true, true, true, true, true, true, true, true, true, true, true, true, true, false, false, false, false, false] rfl rfl (any_of HT_.out (by kernel_rfl)) (fun _ _ _ h => h) (Or.inr ⟨by rfl, rfl⟩) ?_ ?_
                   rotate_left
                   ·simp only [Act.put, List.setIfInBounds_toArray, List.set_cons_zero, List.set_cons_succ, i64_w, i32_w]
                    rfl
                   refine pure_ (i := 15) (N := some 119) (v := undef) (a' := ?_) #[true, true, true, true, true, true, true, true, true, true, true, true, true, true, true, true, false, false, false, false] rfl rfl (any_of HT_.out (by kernel_rfl)) (fun _ _ _ h => h) (Or.inr ⟨by rfl, rfl⟩) ?_ ?_
                   rotate_left
                   ·simp only [Act.put, List.setIfInBounds_toArray, List.set_cons_zero, List.set_cons_succ, i64_w, i32_w]
                    rfl
                   refine pure_ (i := 16) (N := some 120) (v := undef) (a' := ?_) #[true, true, true, true, true, true, true, true, true, true, true, true, true, true, true, true, true, false, false, false] rfl rfl (any_of HT_.out (by kernel_rfl)) (fun _ _ _ h => h) (Or.inr ⟨by rfl, rfl⟩) ?_ ?_
                   rotate_left
                   ·simp only [Act.put, List.setIfInBounds_toArray, List.set_cons_zero, List.set_cons_succ, i64_w, i32_w]
                    rfl
                   refine pure_ (i := 17) (N := some 121) (v := undef) (a' := ?_) #[true, true, true, true, true, true, true, true, true, true, true, true, true, true, true, true, true, true, false, false] rfl rfl (any_of HT_.out (by kernel_rfl)) (fun _ _ _ h => h) (Or.inr ⟨by rfl, rfl⟩) ?_ ?_
                   rotate_left
                   ·simp only [Act.put, List.setIfInBounds_toArray, List.set_cons_zero, List.set_cons_succ, i64_w, i32_w]
                    rfl
                   refine pure_ (i := 18) (N := some 122) (v := undef) (a' := ?_) #[true, true, true, true, true, true, true, true, true, true, true, true, true, true, true, true, true, true, true, false] rfl rfl (any_of HT_.out (by kernel_rfl)) (fun _ _ _ h => h) (Or.inr ⟨by rfl, rfl⟩) ?_ ?_
                   rotate_left
                   ·simp only [Act.put, List.setIfInBounds_toArray, List.set_cons_zero, List.set_cons_succ, i64_w, i32_w]
                    rfl
                   refine pure_ (i := 19) (N := some 123) (v := ?_) (a' := ?_) #[true, true, true, true, true, true, true, true, true, true, true, true, true, true, true, true, true, true, true, true] rfl rfl (any_of HT_.out (by kernel_rfl)) (fun _ _ _ h => h) (Or.inl ⟨by rfl, ?_⟩) ?_ ?_
                   rotate_left
                   ·intro w'
                    go_simp
                    with_reducible rfl
                   rotate_left
                   ·simp only [Act.put, List.setIfInBounds_toArray, List.set_cons_zero, List.set_cons_succ, i64_w, i32_w]
                    rfl
                   refine done_ (done_of HT_.out (by kernel_rfl)) ?_
                   try go_wp2
                   go_meet
                   case rel => exact ⟨_, (true), (by first | rfl | (simp; done) | (simp [*]; done)), H', ⟨by have := HJ10.out; have := HK2.out; have := HK3.out; have := HK4.out; first | omega | exact Nat.le_refl _⟩, ⟨by (with_reducible repeat first | apply Kd.R_alloc | apply Kd.R_drewN | apply Kd.R_drew); exact HO_12.out⟩, ⟨by (with_reducible repeat first | apply Kd.R_alloc | apply Kd.R_drewN | apply Kd.R_drew); exact HO_14.out⟩, ⟨by (with_reducible repeat first | apply Kd.R_alloc | apply Kd.R_drewN | apply Kd.R_drew); exact HO_228003.out⟩, ⟨by (with_reducible repeat first | refine blk_drewN ?_ _ | refine blk_drew ?_ | refine blk_alloc ?_ _); exact BK227.out⟩, ⟨by repeat (first | (with_reducible first | exact HB.out | apply below_alloc | apply pw_below_drewN | apply below_drew1 | refine below_set ?_ GE227.out) | exact HB.out)⟩⟩
                  ·rw [if_neg c59] at H
                   have c59b0 : (t249 == t222) = false := beq_eq_false_iff_ne.mpr c59
                   have c59b1 : (t249 != t222) = true := bne_iff_ne.mpr c59
                   (first | rw [c59b0] | (simp only [i64_w, i32_w]; rw [c59b0]) | skip)
                   by_cases c61 : t248 = t249
                   ·rw [if_pos c61] at H
                    have c61b0 : (t248 == t249) = true := beq_iff_eq.mpr c61
                    have c61b1 : (t248 != t249) = false := bne_eq_false_iff_eq.mpr c61
                    clear c61
                    have H' := Aside0.mk H
                    clear H
                    try go_wp2
                    have n0_ := Aside0.mk (Kd.R_drew HO_12.out)
                    have n1_ := Aside0.mk (Kd.R_drew HO_14.out)
                    have n2_ := Aside0.mk (Kd.R_drew HO_228003.out)
                    have n3_ := Aside0.mk (blk_drew BK227.out)
                    have n4_ := Aside0.mk (below_drew1 HB.out)
                    clear HO_12
                    clear HO_14
                    clear HO_228003
                    clear BK227
                    clear HB
                    have HO_12 := n0_
                    have HO_14 := n1_
                    have HO_228003 := n2_
                    have BK227 := n3_
                    have HB := n4_
                    clear n0_ n1_ n2_ n3_ n4_
                    refine start_ (n := 20) (S := fun w' => w'.cell? ⟨gb227, 0, none⟩ = some (.int .i64 t221) ∧ w'.cell? ⟨gb227, 1, none⟩ = some (.int .i64 t222) ∧ w'.cell? ⟨gb227, 2, none⟩ = some (.int .i64 t223) ∧ w'.cell? ⟨gb227, 3, none⟩ = some (.slice Ao16 t224.length co16)) (ds := []) #[false, false, false, false, false, false, false, false, false, false, false, false, false, false, false, false, false, false, false, false] (by kernel_rfl) rfl rfl ⟨(blk_cell BK227.out 0).trans rfl, (blk_cell BK227.out 1).trans rfl, (blk_cell BK227.out 2).trans rfl, (blk_cell BK227.out 3).trans rfl⟩ (fun hHeld => ?_); refine with_tabW racewaylaw7_LevelFew.tab27 racewaylaw7_LevelFew.bits27 (fun HT_ HW_ => ?_)
                    generalize w58.drew = w62 at HO_12 HO_14 HO_228003 BK227 HB hHeld ⊢
                    refine pure_ (i := 0) (N := some 104) (v := ?_) (a' := ?_) #[true, false, false, false, false, false, false, false, false, false, false, false, false, false, false, false, false, false, false, false] rfl rfl (any_of HT_.out (by kernel_rfl)) (fun _ _ _ h => h) (Or.inl ⟨by rfl, ?_⟩) ?_ ?_
                    rotate_left
                    ·intro w'
                     go_simp
                     with_reducible rfl
                    rotate_left
                    ·simp only [Act.put, List.setIfInBounds_toArray, List.set_cons_zero, List.set_cons_succ, i64_w, i32_w]
                     rfl
                    refine pure_ (i := 1) (N := some 105) (v := ?_) (a' := ?_) #[true, true, false, false, false, false, false, false, false, false, false, false, false, false, false, false, false, false, false, false] rfl rfl (any_of HT_.out (by kernel_rfl)) (fun _ _ _ h => h) (Or.inl ⟨by rfl, ?_⟩) ?_ ?_
                    rotate_left
                    ·intro w'
                     go_simp
                     with_reducible rfl
                    rotate_left
                    ·simp only [Act.put, List.setIfInBounds_toArray, List.set_cons_zero, List.set_cons_succ, i64_w, i32_w]
                     rfl
                    refine take_ (i := 2) (N := some 106) (v := ?_) (a' := ?_) #[true, true, true, false, false, false, false, false, false, false, false, false, false, false, false, false, false, false, false, false] rfl rfl (take_ofW HT_.out HW_.out (by kernel_rfl)) (fun _ _ _ h => h) (Or.inl ⟨by rfl, ?_⟩) hHeld ?_ ?_
                    rotate_left
                    ·rintro w' ⟨s0, s1, s2, s3⟩
                     go_simp
                     with_reducible rfl
                    rotate_left
                    ·simp only [Act.put, List.setIfInBounds_toArray, List.set_cons_zero, List.set_cons_succ, i64_w, i32_w]
                     rfl
                    refine pure_ (i := 3) (N := some 107) (v := ?_) (a' := ?_) #[true, true, true, true, false, false, false, false, false, false, false, false, false, false, false, false, false, false, false, false] rfl rfl (any_of HT_.out (by kernel_rfl)) (fun _ _ _ h => h) (Or.inl ⟨by rfl, ?_⟩) ?_ ?_
                    rotate_left
                    ·intro w'
                     go_simp
                     with_reducible rfl
                    rotate_left
                    ·simp only [Act.put, List.setIfInBounds_toArray, List.set_cons_zero, List.set_cons_succ, i64_w, i32_w]
                     rfl
                    refine pure_ (i := 4) (N := some 108) (v := ?_) (a' := ?_) #[true, true, true, true, true, false, false, false, false, false, false, false, false, false, false, false, false, false, false, false] rfl rfl (any_of HT_.out (by kernel_rfl)) (fun _ _ _ h => h) (Or.inl ⟨by rfl, ?_⟩) ?_ ?_
                    rotate_left
                    ·intro w'
                     go_simp
                     with_reducible rfl
                    rotate_left
                    ·simp only [Act.put, List.setIfInBounds_toArray, List.set_cons_zero, List.set_cons_succ, i64_w, i32_w]
                     rfl
                    refine pure_ (i := 5) (N := some 109) (v := ?_) (a' := ?_) #[true, true, true, true, true, true, false, false, false, false, false, false, false, false, false, false, false, false, false, false] rfl rfl (any_of HT_.out (by kernel_rfl)) (fun _ _ _ h => h) (Or.inl ⟨by rfl, ?_⟩) ?_ ?_
                    rotate_left
                    ·intro w'
                     go_simp
                     with_reducible rfl
                    rotate_left
                    ·simp only [Act.put, List.setIfInBounds_toArray, List.set_cons_zero, List.set_cons_succ, i64_w, i32_w]
                     rfl
                    refine pure_ (i := 6) (N := some 110) (v := ?_) (a' := ?_) #[true, true, true, true, true, true, true, false, false, false, false, false, false, false, false, false, false, false, false, false] rfl rfl (any_of HT_.out (by kernel_rfl)) (fun _ _ _ h => h) (Or.inl ⟨by rfl, ?_⟩) ?_ ?_
                    rotate_left
                    ·intro w'
                     go_simp
                     with_reducible rfl
                    rotate_left
                    ·simp only [Act.put, List.setIfInBounds_toArray, List.set_cons_zero, List.set_cons_succ, i64_w, i32_w]
                     rfl
                    refine pure_ (i := 7) (N := some 111) (v := ?_) (a' := ?_) #[true, true, true, true, true, true, true, true, false, false, false, false, false, false, false, false, false, false, false, false] rfl rfl (any_of HT_.out (by kernel_rfl)) (fun _ _ _ h => h) (Or.inl ⟨by rfl, ?_⟩) ?_ ?_
                    rotate_left
                    ·intro w'
                     go_simp
                     with_reducible rfl
                    rotate_left
                    ·simp only [Act.put, List.setIfInBounds_toArray, List.set_cons_zero, List.set_cons_succ, i64_w, i32_w]
                     rfl
                    refine pure_ (i := 8) (N := some 112) (v := ?_) (a' := ?_) #[true, true, true, true, true, true, true, true, true, false, false, false, false, false, false, false, false, false, false, false] rfl rfl (any_of HT_.out (by kernel_rfl)) (fun _ _ _ h => h) (Or.inl ⟨by rfl, ?_⟩) ?_ ?_
                    rotate_left
                    ·intro w'
                     go_simp
                     with_reducible rfl
                    rotate_left
                    ·simp only [Act.put, List.setIfInBounds_toArray, List.set_cons_zero, List.set_cons_succ, i64_w, i32_w]
                     rfl
                    refine pure_ (i := 9) (N := some 113) (v := ?_) (a' := ?_) #[true, true, true, true, true, true, true, true, true, true, false, false, false, false, false, false, false, false, false, false] rfl rfl (any_of HT_.out (by kernel_rfl)) (fun _ _ _ h => h) (Or.inl ⟨by rfl, ?_⟩) ?_ ?_
                    rotate_left
                    ·intro w'
                     go_simp
                     with_reducible rfl
                    rotate_left
                    ·simp only [Act.put, List.setIfInBounds_toArray, List.set_cons_zero, List.set_cons_succ, i64_w, i32_w]
                     rfl
                    refine pure_ (i := 10) (N := some 114) (v := undef) (a' := ?_) #[true, true, true, true, true, true, true, true, true, true, true, false, false, false, false, false, false, false, false, false] rfl rfl (any_of HT_.out (by kernel_rfl)) (fun _ _ _ h => h) (Or.inr ⟨by rfl, rfl⟩) ?_ ?_
                    rotate_left
                    ·simp only [Act.put, List.setIfInBounds_toArray, List.set_cons_zero, List.set_cons_succ, i64_w, i32_w]
                     rfl
                    refine pure_ (i := 11) (N := some 115) (v := undef) (a' := ?_) #[true, true, true, true, true, true, true, true, true, true, true, true, false, false, false, false, false, false, false, false] rfl rfl (any_of HT_.out (by kernel_rfl)) (fun _ _ _ h => h) (Or.inr ⟨by rfl, rfl⟩) ?_ ?_
                    rotate_left
                    ·simp only [Act.put, List.setIfInBounds_toArray, List.set_cons_zero, List.set_cons_succ, i64_w, i32_w]
                     rfl
                    refine pure_ (i := 12) (N := some 116) (v := undef) (a' := ?_) #[true, true, true, true, true, true, true, true, true, true, true, true, true, false, false, false, false, false, false, false] rfl rfl (any_of HT_.out (by kernel_rfl)) (fun _ _ _ h => h) (Or.inr ⟨by rfl, rfl⟩) ?_ ?_
                    rotate_left
                    ·simp only [Act.put, List.setIfInBounds_toArray, List.set_cons_zero, List.set_cons_succ, i64_w, i32_w]
                     rfl
                    refine pure_ (i := 13) (N := some 117) (v := undef) (a' := ?_) #[true, true, true, true, true, true, true, true, true, true, true, true, true, true, false, false, false, false, false, false] rfl rfl (any_of HT_.out (by kernel_rfl)) (fun _ _ _ h => h) (Or.inr ⟨by rfl, rfl⟩) ?_ ?_
                    rotate_left
                    ·simp only [Act.put, List.setIfInBounds_toArray, List.set_cons_zero, List.set_cons_succ, i64_w, i32_w]
                     rfl
                    refine pure_ (i := 14) (N := some 118) (v := undef) (a' := ?_) #[true, true, true, true, true, true, true, true, true, true, true, true, true, true, true, false, false, false, false, false] rfl rfl (any_of HT_.out (by kernel_rfl)) (fun _ _ _ h => h) (Or.inr ⟨by rfl, rfl⟩) ?_ ?_
                    rotate_left
                    ·simp only [Act.put, List.setIfInBounds_toArray, List.set_cons_zero, List.set_cons_succ, i64_w, i32_w]
                     rfl
                    refine pure_ (i := 15) (N := some 119) (v := undef) (a' := ?_) #[true, true, true, true, true, true, true, true, true, true, true, true, true, true, true, true, false, false, false, false] rfl rfl (any_of HT_.out (by kernel_rfl)) (fun _ _ _ h => h) (Or.inr ⟨by rfl, rfl⟩) ?_ ?_
                    rotate_left
                    ·simp only [Act.put, List.setIfInBounds_toArray, List.set_cons_zero, List.set_cons_succ, i64_w, i32_w]
                     rfl
                    refine pure_ (i := 16) (N := some 120) (v := undef) (a' := ?_) #[true, true, true, true, true, true, true, true, true, true, true, true, true, true, true, true, true, false, false, false] rfl rfl (any_of HT_.out (by kernel_rfl)) (fun _ _ _ h => h) (Or.inr ⟨by rfl, rfl⟩) ?_ ?_
                    rotate_left
                    ·simp only [Act.put, List.setIfInBounds_toArray, List.set_cons_zero, List.set_cons_succ, i64_w, i32_w]
                     rfl
                    refine pure_ (i := 17) (N := some 121) (v := undef) (a' := ?_) #[true, true, true, true, true, true, true, true, true, true, true, true, true, true, true, true, true, true, false, false] rfl rfl (any_of HT_.out (by kernel_rfl)) (fun _ _ _ h => h) (Or.inr ⟨by rfl, rfl⟩) ?_ ?_
                    rotate_left
                    ·simp only [Act.put, List.setIfInBounds_toArray, List.set_cons_zero, List.set_cons_succ, i64_w, i32_w]
                     rfl
                    refine pure_ (i := 18) (N := some 122) (v := undef) (a' := ?_) #[true, true, true, true, true, true, true, true, true, true, true, true, true, true, true, true, true, true, true, false] rfl rfl (any_of HT_.out (by kernel_rfl)) (fun _ _ _ h => h) (Or.inr ⟨by rfl, rfl⟩) ?_ ?_
                    rotate_left
                    ·simp only [Act.put, List.setIfInBounds_toArray, List.set_cons_zero, List.set_cons_succ, i64_w, i32_w]
                     rfl
                    refine pure_ (i := 19) (N := some 123) (v := ?_) (a' := ?_) #[true, true, true, true, true, true, true, true, true, true, true, true, true, true, true, true, true, true, true, true] rfl rfl (any_of HT_.out (by kernel_rfl)) (fun _ _ _ h => h) (Or.inl ⟨by rfl, ?_⟩) ?_ ?_
                    rotate_left
                    ·intro w'
                     go_simp
                     with_reducible rfl
                    rotate_left
                    ·simp only [Act.put, List.setIfInBounds_toArray, List.set_cons_zero, List.set_cons_succ, i64_w, i32_w]
                     rfl
                    refine done_ (done_of HT_.out (by kernel_rfl)) ?_
                    try go_wp2
                    go_meet
                    case rel => exact ⟨_, (true), (by first | rfl | (simp; done) | (simp [*]; done)), H', ⟨by have := HJ10.out; have := HK2.out; have := HK3.out; have := HK4.out; first | omega | exact Nat.le_refl _⟩, ⟨by (with_reducible repeat first | apply Kd.R_alloc | apply Kd.R_drewN | apply Kd.R_drew); exact HO_12.out⟩, ⟨by (with_reducible repeat first | apply Kd.R_alloc | apply Kd.R_drewN | apply Kd.R_drew); exact HO_14.out⟩, ⟨by (with_reducible repeat first | apply Kd.R_alloc | apply Kd.R_drewN | apply Kd.R_drew); exact HO_228003.out⟩, ⟨by (with_reducible repeat first | refine blk_drewN ?_ _ | refine blk_drew ?_ | refine blk_alloc ?_ _); exact BK227.out⟩, ⟨by repeat (first | (with_reducible first | exact HB.out | apply below_alloc | apply pw_below_drewN | apply below_drew1 | refine below_set ?_ GE227.out) | exact HB.out)⟩⟩
                   ·rw [if_neg c61] at H
                    have c61b0 : (t248 == t249) = false := beq_eq_false_iff_ne.mpr c61
                    have c61b1 : (t248 != t249) = true := bne_iff_ne.mpr c61
                    by_cases c63 : 0 ≤ t248
                    ·rw [if_pos c63] at H
                     have c63b0 : decide (0 ≤ t248) = true := decide_eq_true c63
                     clear c63
                     by_cases c64 : t248 < (t231.length : Int)
                     ·rw [if_pos c64] at H
                      have c64b0 : decide (t248 < (t231.length : Int)) = true := decide_eq_true c64
                      clear c64
                      by_cases c65 : 0 ≤ t249
                      ·rw [if_pos c65] at H
                       have c65b0 : decide (0 ≤ t249) = true := decide_eq_true c65
                       clear c65
                       by_cases c66 : t249 < (t231.length : Int)
                       ·rw [if_pos c66] at H
                        have c66b0 : decide (t249 < (t231.length : Int)) = true := decide_eq_true c66
                        clear c66
                        have H' := Aside0.mk H
                        clear H
                        try go_wp2
                        have n0_ := Aside0.mk (Kd.R_drew HO_12.out)
                        have n1_ := Aside0.mk (Kd.R_drew HO_14.out)
                        have n2_ := Aside0.mk (Kd.R_drew HO_228003.out)
                        have n3_ := Aside0.mk (blk_drew BK227.out)
                        have n4_ := Aside0.mk (below_drew1 HB.out)
                        clear HO_12
                        clear HO_14
                        clear HO_228003
                        clear BK227
                        clear HB
                        have HO_12 := n0_
                        have HO_14 := n1_
                        have HO_228003 := n2_
                        have BK227 := n3_
                        have HB := n4_
                        clear n0_ n1_ n2_ n3_ n4_
                        obtain ⟨Ao68, co68, eo68⟩ := Kd.R_slice HO_12.out
                        (first | subst eo68 | (injection eo68 with f1_ f2_ f3_; have f4_ := f1_.symm; have f5_ := f3_.symm; clear f1_ f2_ f3_; subst f4_; subst f5_))
                        have p250 : 0 ≤ (t248 : Int) := of_decide_eq_true (by first | (with_reducible assumption) | assumption)
                        have q250 : t248 < (t231.length : Int) := of_decide_eq_true (by first | (with_reducible assumption) | assumption)
                        obtain ⟨ad250, e250, hx250_0⟩ := Kd.at_int (Kd.R_reads' HO_12.out).2.2 t248 p250 q250
                        cases e250
                        replace p250 := eq_true p250
                        replace q250 := eq_true q250
                        have p251 : 0 ≤ (t249 : Int) := of_decide_eq_true (by first | (with_reducible assumption) | assumption)
                        have q251 : t249 < (t231.length : Int) := of_decide_eq_true (by first | (with_reducible assumption) | assumption)
                        obtain ⟨ad251, e251, hx251_0⟩ := Kd.at_int (Kd.R_reads' HO_12.out).2.2 t249 p251 q251
                        obtain rfl : ad250 = ad251 := (by injection e251)
                        replace p251 := eq_true p251
                        replace q251 := eq_true q251
                        refine start_ (n := 20) (S := fun w' => w'.cell? ⟨gb227, 0, none⟩ = some (.int .i64 t221) ∧ w'.cell? ⟨gb227, 1, none⟩ = some (.int .i64 t222) ∧ w'.cell? ⟨gb227, 2, none⟩ = some (.int .i64 t223) ∧ w'.cell? ⟨gb227, 3, none⟩ = some (.slice Ao16 t224.length co16) ∧ w'.cell? (ad250.add (t248).toNat) = some (.int .i64 (rd t231 t248)) ∧ w'.cell? (ad250.add (t249).toNat) = some (.int .i64 (rd t231 t249))) (ds := []) #[false, false, false, false, false, false, false, false, false, false, false, false, false, false, false, false, false, false, false, false] (by kernel_rfl) rfl rfl ⟨(blk_cell BK227.out 0).trans rfl, (blk_cell BK227.out 1).trans rfl, (blk_cell BK227.out 2).trans rfl, (blk_cell BK227.out 3).trans rfl, hx250_0, hx251_0⟩ (fun hHeld => ?_); refine with_tabW racewaylaw7_LevelFew.tab27 racewaylaw7_LevelFew.bits27 (fun HT_ HW_ => ?_)
                        generalize w58.drew = w67 at HO_12 HO_14 HO_228003 BK227 HB hx250_0 hx251_0 hHeld ⊢
                        refine pure_ (i := 0) (N := some 104) (v := ?_) (a' := ?_) #[true, false, false, false, false, false, false, false, false, false, false, false, false, false, false, false, false, false, false, false] rfl rfl (any_of HT_.out (by kernel_rfl)) (fun _ _ _ h => h) (Or.inl ⟨by rfl, ?_⟩) ?_ ?_
                        rotate_left
                        ·intro w'
                         go_simp
                         with_reducible rfl
                        rotate_left
                        ·simp only [Act.put, List.setIfInBounds_toArray, List.set_cons_zero, List.set_cons_succ, i64_w, i32_w]
                         rfl
                        refine pure_ (i := 1) (N := some 105) (v := ?_) (a' := ?_) #[true, true, false, false, false, false, false, false, false, false, false, false, false, false, false, false, false, false, false, false] rfl rfl (any_of HT_.out (by kernel_rfl)) (fun _ _ _ h => h) (Or.inl ⟨by rfl, ?_⟩) ?_ ?_
                        rotate_left
                        ·intro w'
                         go_simp
                         with_reducible rfl
                        rotate_left
                        ·simp only [Act.put, List.setIfInBounds_toArray, List.set_cons_zero, List.set_cons_succ, i64_w, i32_w]
                         rfl
                        refine take_ (i := 2) (N := some 106) (v := ?_) (a' := ?_) #[true, true, true, false, false, false, false, false, false, false, false, false, false, false, false, false, false, false, false, false] rfl rfl (take_ofW HT_.out HW_.out (by kernel_rfl)) (fun _ _ _ h => h) (Or.inl ⟨by rfl, ?_⟩) hHeld ?_ ?_
                        rotate_left
                        ·rintro w' ⟨s0, s1, s2, s3, s4, s5⟩
                         go_simp
                         with_reducible rfl
                        rotate_left
                        ·simp only [Act.put, List.setIfInBounds_toArray, List.set_cons_zero, List.set_cons_succ, i64_w, i32_w]
                         rfl
                        refine pure_ (i := 3) (N := some 107) (v := ?_) (a' := ?_) #[true, true, true, true, false, false, false, false, false, false, false, false, false, false, false, false, false, false, false, false] rfl rfl (any_of HT_.out (by kernel_rfl)) (fun _ _ _ h => h) (Or.inl ⟨by rfl, ?_⟩) ?_ ?_
                        rotate_left
                        ·intro w'
                         go_simp
                         with_reducible rfl
                        rotate_left
                        ·simp only [Act.put, List.setIfInBounds_toArray, List.set_cons_zero, List.set_cons_succ, i64_w, i32_w]
                         rfl
                        refine pure_ (i := 4) (N := some 108) (v := ?_) (a' := ?_) #[true, true, true, true, true, false, false, false, false, false, false, false, false, false, false, false, false, false, false, false] rfl rfl (any_of HT_.out (by kernel_rfl)) (fun _ _ _ h => h) (Or.inl ⟨by rfl, ?_⟩) ?_ ?_
                        rotate_left
                        ·intro w'
                         go_simp
                         with_reducible rfl
                        rotate_left
                        ·simp only [Act.put, List.setIfInBounds_toArray, List.set_cons_zero, List.set_cons_succ, i64_w, i32_w]
                         rfl
                        refine pure_ (i := 5) (N := some 109) (v := ?_) (a' := ?_) #[true, true, true, true, true, true, false, false, false, false, false, false, false, false, false, false, false, false, false, false] rfl rfl (any_of HT_.out (by kernel_rfl)) (fun _ _ _ h => h) (Or.inl ⟨by rfl, ?_⟩) ?_ ?_
                        rotate_left
                        ·intro w'
                         go_simp
                         with_reducible rfl
                        rotate_left
                        ·simp only [Act.put, List.setIfInBounds_toArray, List.set_cons_zero, List.set_cons_succ, i64_w, i32_w]
                         rfl
                        refine pure_ (i := 6) (N := some 110) (v := ?_) (a' := ?_) #[true, true, true, true, true, true, true, false, false, false, false, false, false, false, false, false, false, false, false, false] rfl rfl (any_of HT_.out (by kernel_rfl)) (fun _ _ _ h => h) (Or.inl ⟨by rfl, ?_⟩) ?_ ?_
                        rotate_left
                        ·intro w'
                         go_simp
                         with_reducible rfl
                        rotate_left
                        ·simp only [Act.put, List.setIfInBounds_toArray, List.set_cons_zero, List.set_cons_succ, i64_w, i32_w]
                         rfl
                        refine pure_ (i := 7) (N := some 111) (v := ?_) (a' := ?_) #[true, true, true, true, true, true, true, true, false, false, false, false, false, false, false, false, false, false, false, false] rfl rfl (any_of HT_.out (by kernel_rfl)) (fun _ _ _ h => h) (Or.inl ⟨by rfl, ?_⟩) ?_ ?_
                        rotate_left
                        ·intro w'
                         go_simp
                         with_reducible rfl
                        rotate_left
                        ·simp only [Act.put, List.setIfInBounds_toArray, List.set_cons_zero, List.set_cons_succ, i64_w, i32_w]
                         rfl
                        refine pure_ (i := 8) (N := some 112) (v := ?_) (a' := ?_) #[true, true, true, true, true, true, true, true, true, false, false, false, false, false, false, false, false, false, false, false] rfl rfl (any_of HT_.out (by kernel_rfl)) (fun _ _ _ h => h) (Or.inl ⟨by rfl, ?_⟩) ?_ ?_
                        rotate_left
                        ·intro w'
                         go_simp
                         with_reducible rfl
                        rotate_left
                        ·simp only [Act.put, List.setIfInBounds_toArray, List.set_cons_zero, List.set_cons_succ, i64_w, i32_w]
                         rfl
                        refine pure_ (i := 9) (N := some 113) (v := ?_) (a' := ?_) #[true, true, true, true, true, true, true, true, true, true, false, false, false, false, false, false, false, false, false, false] rfl rfl (any_of HT_.out (by kernel_rfl)) (fun _ _ _ h => h) (Or.inl ⟨by rfl, ?_⟩) ?_ ?_
                        rotate_left
                        ·intro w'
                         go_simp
                         with_reducible rfl
                        rotate_left
                        ·simp only [Act.put, List.setIfInBounds_toArray, List.set_cons_zero, List.set_cons_succ, i64_w, i32_w]
                         rfl
                        refine pure_ (i := 10) (N := some 114) (v := ?_) (a' := ?_) #[true, true, true, true, true, true, true, true, true, true, true, false, false, false, false, false, false, false, false, false] rfl rfl (any_of HT_.out (by kernel_rfl)) (fun _ _ _ h => h) (Or.inl ⟨by rfl, ?_⟩) ?_ ?_
                        rotate_left
                        ·intro w'
                         go_simp
                         with_reducible rfl
                        rotate_left
                        ·simp only [Act.put, List.setIfInBounds_toArray, List.set_cons_zero, List.set_cons_succ, i64_w, i32_w]
                         rfl
                        refine pure_ (i := 11) (N := some 115) (v := ?_) (a' := ?_) #[true, true, true, true, true, true, true, true, true, true, true, true, false, false, false, false, false, false, false, false] rfl rfl (any_of HT_.out (by kernel_rfl)) (fun _ _ _ h => h) (Or.inl ⟨by rfl, ?_⟩) ?_ ?_
                        rotate_left
                        ·intro w'
                         go_simp
                         with_reducible rfl
                        rotate_left
                        ·simp only [Act.put, List.setIfInBounds_toArray, List.set_cons_zero, List.set_cons_succ, i64_w, i32_w]
                         rfl
                        refine pure_ (i := 12) (N := some 116) (v := ?_) (a' := ?_) #[true, true, true, true, true, true, true, true, true, true, true, true, true, false, false, false, false, false, false, false] rfl rfl (any_of HT_.out (by kernel_rfl)) (fun _ _ _ h => h) (Or.inl ⟨by rfl, ?_⟩) ?_ ?_
                        rotate_left
                        ·intro w'
                         go_simp
                         with_reducible rfl
                        rotate_left
                        ·simp only [Act.put, List.setIfInBounds_toArray, List.set_cons_zero, List.set_cons_succ, i64_w, i32_w]
                         rfl
                        refine pure_ (i := 14) (N := some 118) (v := ?_) (a' := ?_) #[true, true, true, true, true, true, true, true, true, true, true, true, true, false, true, false, false, false, false, false] rfl rfl (any_of HT_.out (by kernel_rfl)) (fun _ _ _ h => h) (Or.inl ⟨by rfl, ?_⟩) ?_ ?_
                        rotate_left
                        ·intro w'
                         go_simp
                         with_reducible rfl
                        rotate_left
                        ·simp only [Act.put, List.setIfInBounds_toArray, List.set_cons_zero, List.set_cons_succ, i64_w, i32_w]
                         rfl
                        refine pure_ (i := 15) (N := some 119) (v := ?_) (a' := ?_) #[true, true, true, true, true, true, true, true, true, true, true, true, true, false, true, true, false, false, false, false] rfl rfl (any_of HT_.out (by kernel_rfl)) (fun _ _ _ h => h) (Or.inl ⟨by rfl, ?_⟩) ?_ ?_
                        rotate_left
                        ·intro w'
                         go_simp
                         with_reducible rfl
                        rotate_left
                        ·simp only [Act.put, List.setIfInBounds_toArray, List.set_cons_zero, List.set_cons_succ, i64_w, i32_w]
                         rfl
                        refine pure_ (i := 16) (N := some 120) (v := ?_) (a' := ?_) #[true, true, true, true, true, true, true, true, true, true, true, true, true, false, true, true, true, false, false, false] rfl rfl (any_of HT_.out (by kernel_rfl)) (fun _ _ _ h => h) (Or.inl ⟨by rfl, ?_⟩) ?_ ?_
                        rotate_left
                        ·intro w'
                         go_simp
                         with_reducible rfl
                        rotate_left
                        ·simp only [Act.put, List.setIfInBounds_toArray, List.set_cons_zero, List.set_cons_succ, i64_w, i32_w]
                         rfl
                        refine take_ (i := 13) (N := some 117) (v := ?_) (a' := ?_) #[true, true, true, true, true, true, true, true, true, true, true, true, true, true, true, true, true, false, false, false] rfl rfl (take_ofW HT_.out HW_.out (by kernel_rfl)) (fun _ _ _ h => h) (Or.inl ⟨by rfl, ?_⟩) hHeld ?_ ?_
                        rotate_left
                        ·rintro w' ⟨s0, s1, s2, s3, s4, s5⟩
                         go_simp
                         with_reducible rfl
                        rotate_left
                        ·simp only [Act.put, List.setIfInBounds_toArray, List.set_cons_zero, List.set_cons_succ, i64_w, i32_w]
                         rfl
                        refine take_ (i := 17) (N := some 121) (v := ?_) (a' := ?_) #[true, true, true, true, true, true, true, true, true, true, true, true, true, true, true, true, true, true, false, false] rfl rfl (take_ofW HT_.out HW_.out (by kernel_rfl)) (fun _ _ _ h => h) (Or.inl ⟨by rfl, ?_⟩) hHeld ?_ ?_
                        rotate_left
                        ·rintro w' ⟨s0, s1, s2, s3, s4, s5⟩
                         go_simp
                         with_reducible rfl
                        rotate_left
                        ·simp only [Act.put, List.setIfInBounds_toArray, List.set_cons_zero, List.set_cons_succ, i64_w, i32_w]
                         rfl
                        refine pure_ (i := 18) (N := some 122) (v := ?_) (a' := ?_) #[true, true, true, true, true, true, true, true, true, true, true, true, true, true, true, true, true, true, true, false] rfl rfl (any_of HT_.out (by kernel_rfl)) (fun _ _ _ h => h) (Or.inl ⟨by rfl, ?_⟩) ?_ ?_
                        rotate_left
                        ·intro w'
                         go_simp
                         with_reducible rfl
                        rotate_left
                        ·simp only [Act.put, List.setIfInBounds_toArray, List.set_cons_zero, List.set_cons_succ, i64_w, i32_w]
                         rfl
                        refine pure_ (i := 19) (N := some 123) (v := ?_) (a' := ?_) #[true, true, true, true, true, true, true, true, true, true, true, true, true, true, true, true, true, true, true, true] rfl rfl (any_of HT_.out (by kernel_rfl)) (fun _ _ _ h => h) (Or.inl ⟨by rfl, ?_⟩) ?_ ?_
                        rotate_left
                        ·intro w'
                         go_simp
                         with_reducible rfl
                        rotate_left
                        ·simp only [Act.put, List.setIfInBounds_toArray, List.set_cons_zero, List.set_cons_succ, i64_w, i32_w]
                         rfl
                        refine done_ (done_of HT_.out (by kernel_rfl)) ?_
                        try go_wp2
                        go_meet
                        case rel => exact ⟨_, (decide ((rd t231 t248) ≥ (rd t231 t249))), (by first | rfl | (simp; done) | (simp [*]; done)), H', ⟨by have := HJ10.out; have := HK2.out; have := HK3.out; have := HK4.out; first | omega | exact Nat.le_refl _⟩, ⟨by (with_reducible repeat first | apply Kd.R_alloc | apply Kd.R_drewN | apply Kd.R_drew); exact HO_12.out⟩, ⟨by (with_reducible repeat first | apply Kd.R_alloc | apply Kd.R_drewN | apply Kd.R_drew); exact HO_14.out⟩, ⟨by (with_reducible repeat first | apply Kd.R_alloc | apply Kd.R_drewN | apply Kd.R_drew); exact HO_228003.out⟩, ⟨by (with_reducible repeat first | refine blk_drewN ?_ _ | refine blk_drew ?_ | refine blk_alloc ?_ _); exact BK227.out⟩, ⟨by repeat (first | (with_reducible first | exact HB.out | apply below_alloc | apply pw_below_drewN | apply below_drew1 | refine below_set ?_ GE227.out) | exact HB.out)⟩⟩
                       ·rw [if_neg c66] at H
                        exact absurd H (by simp)
                      ·rw [if_neg c65] at H
                       exact absurd H (by simp)
                     ·rw [if_neg c64] at H
                      exact absurd H (by simp)
                    ·rw [if_neg c63] at H
                     exact absurd H (by simp)
                 case rest =>
                  clear HC55
                  try clear p2
                  try clear q2
                  try clear hx2
                  try clear c5
                  try clear c6
                  try clear p25
                  try clear q25
                  try clear hx25
                  try clear c59
                  try clear c59b0
                  try clear c59b1
                  try clear c61
                  try clear c61b0
                  try clear c61b1
                  try clear c63
                  try clear c63b0
                  try clear c64
                  try clear c64b0
                  try clear c65
                  try clear c65b0
                  try clear c66
                  try clear c66b0
                  try clear hx250_0
                  try clear hx251_0
                  try clear p250
                  try clear p251
                  try clear q250
                  try clear q251
                  obtain ⟨kq, x123_54, rfl, HA, HJ54, HO_12, HO_14, HO_228003, BK227, HB⟩ := hcut
                  cases kq with
                  | zero => exact absurd HA.out (by simp [racewaylaw7_LevelFew.j4])
                  | succ kj54 =>
                   have H := HA.out
                   clear HA
                   simp only [racewaylaw7_LevelFew.j4] at H
                   by_cases c69 : x123_54 = true
                   ·subst c69
                    have H1 : (some false) = some r := by rw [if_pos rfl] at H; exact H
                    clear H
                    have H := H1
                    clear H1
                    exact absurd ((Option.some.inj H).trans hrT_.out) (by simp)
                   ·replace c69 := Bool.eq_false_iff.mpr c69
                    subst c69
                    have H1 : (racewaylaw7_LevelFew.l3 kj54 t231 t235 x20_4 0 t221 t222 t223 t224) = some r := by rw [if_neg (show ¬ (false = true) by decide)] at H; exact H
                    clear H
                    have H := H1
                    clear H1
                    have H' := Aside0.mk H
                    clear H
                    go_wp2
                    go_loopg [23] kj54 (fun kq v23 w' => ∃ (x23_6 : Int), v23 = .int .i64 x23_6 ∧ Aside0 (racewaylaw7_LevelFew.l3 kq t231 t235 x20_4 x23_6 t221 t222 t223 t224 = some r) ∧ Aside0 (kq ≤ kj54) ∧ Aside0 (Kd.R (Kd.int .i64) 3 w' w.heap.size (fun k_ => some k_ ≠ ((.slice (some ad247) t235.length co56) : Value).ownBlock) v232 t231) ∧ Aside0 (Kd.R (Kd.int .i64) 3 w' w.heap.size (fun k_ => some k_ ≠ (v232 : Value).ownBlock) (.slice (some ad247) t235.length co56) t235) ∧ Aside0 (Kd.R k49 49 w' w.heap.size (fun _ => True) (.slice Ao16 t224.length co16) t224) ∧ Aside0 (w'.heap[gb227]? = some (.cells #[.int .i64 t221, .int .i64 t222, .int .i64 t223, (.slice Ao16 t224.length co16)] 27 (0, 0))) ∧ Aside0 (Below w.heap.size w w'))
                    case atStart => exact ⟨(0), (by first | rfl | (simp; done) | (simp [*]; done)), H', ⟨Nat.le_refl _⟩, ⟨by (with_reducible repeat first | apply Kd.R_alloc | apply Kd.R_drewN | apply Kd.R_drew); exact HO_12.out⟩, ⟨by (with_reducible repeat first | apply Kd.R_alloc | apply Kd.R_drewN | apply Kd.R_drew); exact HO_14.out⟩, ⟨by (with_reducible repeat first | apply Kd.R_alloc | apply Kd.R_drewN | apply Kd.R_drew); exact HO_228003.out⟩, ⟨by (with_reducible repeat first | refine blk_drewN ?_ _ | refine blk_drew ?_ | refine blk_alloc ?_ _); exact BK227.out⟩, ⟨by repeat (first | (with_reducible first | exact HB.out | apply below_alloc | apply pw_below_drewN | apply below_drew1 | refine below_set ?_ GE227.out) | exact HB.out)⟩⟩
                    case round =>
                     clear H'
                     try clear p2
                     try clear q2
                     try clear hx2
                     try clear c5
                     try clear c6
                     try clear p25
                     try clear q25
                     try clear hx25
                     try clear c59
                     try clear c59b0
                     try clear c59b1
                     try clear c61
                     try clear c61b0
                     try clear c61b1
                     try clear c63
                     try clear c63b0
                     try clear c64
                     try clear c64b0
                     try clear c65
                     try clear c65b0
                     try clear c66
                     try clear c66b0
                     try clear c69
                     try clear hx250_0
                     try clear hx251_0
                     try clear p2
                     try clear p25
                     try clear p250
                     try clear p251
                     try clear q2
                     try clear q25
                     try clear q250
                     try clear q251
                     obtain ⟨x23_6, rfl, HA, HK6, HO_12, HO_14, HO_228003, BK227, HB⟩ := hrel
                     cases gk with
                     | zero => exact absurd HA.out (by simp [racewaylaw7_LevelFew.l3])
                     | succ k6 =>
                      have H := HA.out
                      clear HA
                      simp only [racewaylaw7_LevelFew.l3] at H
                      by_cases c70 : x23_6 < x20_4
                      ·rw [if_pos c70] at H
                       have c70b0 : decide (x23_6 < x20_4) = true := decide_eq_true c70
                       clear c70
                       by_cases c71 : 0 ≤ x23_6
                       ·rw [if_pos c71] at H
                        have c71b0 : decide (0 ≤ x23_6) = true := decide_eq_true c71
                        clear c71
                        by_cases c72 : x23_6 < (t235.length : Int)
                        ·rw [if_pos c72] at H
                         have c72b0 : decide (x23_6 < (t235.length : Int)) = true := decide_eq_true c72
                         clear c72
                         by_cases c73 : 0 ≤ x20_4
                         ·rw [if_pos c73] at H
                          have c73b0 : decide (0 ≤ x20_4) = true := decide_eq_true c73
                          clear c73
                          by_cases c74 : x20_4 < (t235.length : Int)
                          ·rw [if_pos c74] at H
                           have c74b0 : decide (x20_4 < (t235.length : Int)) = true := decide_eq_true c74
                           clear c74
                           by_cases c75 : (rd t235 x23_6) = (Go.bits .xor .i64 (rd t235 x20_4) 1)
                           ·rw [if_pos c75] at H
                            have c75b0 : ((rd t235 x23_6) == (Go.bits .xor .i64 (rd t235 x20_4) 1)) = true := beq_iff_eq.mpr c75
                            have c75b1 : ((rd t235 x23_6) != (Go.bits .xor .i64 (rd t235 x20_4) 1)) = false := bne_eq_false_iff_eq.mpr c75
                            clear c75
                            exact absurd ((Option.some.inj H).trans hrT_.out) (by simp)
                           ·rw [if_neg c75] at H
                            have c75b0 : ((rd t235 x23_6) == (Go.bits .xor .i64 (rd t235 x20_4) 1)) = false := beq_eq_false_iff_ne.mpr c75
                            have c75b1 : ((rd t235 x23_6) != (Go.bits .xor .i64 (rd t235 x20_4) 1)) = true := bne_iff_ne.mpr c75
                            have H' := Aside0.mk H
                            clear H
                            try go_wp2
                            have n0_ := Aside0.mk (Kd.R_drew HO_12.out)
                            have n1_ := Aside0.mk (Kd.R_drew HO_14.out)
                            have n2_ := Aside0.mk (Kd.R_drew HO_228003.out)
                            have n3_ := Aside0.mk (blk_drew BK227.out)
                            have n4_ := Aside0.mk (below_drew1 HB.out)
                            clear HO_12
                            clear HO_14
                            clear HO_228003
                            clear BK227
                            clear HB
                            have HO_12 := n0_
                            have HO_14 := n1_
                            have HO_228003 := n2_
                            have BK227 := n3_
                            have HB := n4_
                            clear n0_ n1_ n2_ n3_ n4_
                            have p252 : 0 ≤ (x23_6 : Int) := of_decide_eq_true (by first | (with_reducible assumption) | assumption)
                            have q252 : x23_6 < (t235.length : Int) := of_decide_eq_true (by first | (with_reducible assumption) | assumption)
                            obtain ⟨ad252, e252, hx252_0⟩ := Kd.at_int (Kd.R_reads' HO_14.out).2.2 x23_6 p252 q252
                            obtain rfl : ad247 = ad252 := (by injection e252)
                            replace p252 := eq_true p252
                            replace q252 := eq_true q252
                            have p253 : 0 ≤ (x20_4 : Int) := of_decide_eq_true (by first | (with_reducible assumption) | assumption)
                            have q253 : x20_4 < (t235.length : Int) := of_decide_eq_true (by first | (with_reducible assumption) | assumption)
                            obtain ⟨ad253, e253, hx253_0⟩ := Kd.at_int (Kd.R_reads' HO_14.out).2.2 x20_4 p253 q253
                            obtain rfl : ad247 = ad253 := (by injection e253)
                            replace p253 := eq_true p253
                            replace q253 := eq_true q253
                            refine start_ (n := 10) (S := fun w' => w'.cell? (ad247.add (x23_6).toNat) = some (.int .i64 (rd t235 x23_6)) ∧ w'.cell? (ad247.add (x20_4).toNat) = some (.int .i64 (rd t235 x20_4))) (ds := []) #[false, false, false, false, false, false, false, false, false, false] (by kernel_rfl) rfl rfl ⟨hx252_0, hx253_0⟩ (fun hHeld => ?_); refine with_tabW racewaylaw7_LevelFew.tab32 racewaylaw7_LevelFew.bits32 (fun HT_ HW_ => ?_)
                            generalize wr.drew = w76 at HO_12 HO_14 HO_228003 BK227 HB hx252_0 hx253_0 hHeld ⊢
                            refine pure_ (i := 0) (N := some 129) (v := ?_) (a' := ?_) #[true, false, false, false, false, false, false, false, false, false] rfl rfl (any_of HT_.out (by kernel_rfl)) (fun _ _ _ h => h) (Or.inl ⟨by rfl, ?_⟩) ?_ ?_
                            rotate_left
                            ·intro w'
                             go_simp
                             with_reducible rfl
                            rotate_left
                            ·simp only [Act.put, List.setIfInBounds_toArray, List.set_cons_zero, List.set_cons_succ, i64_w, i32_w]
                             rfl
                            refine pure_ (i := 1) (N := some 130) (v := ?_) (a' := ?_) #[true, true, false, false, false, false, false, false, false, false] rfl rfl (any_of HT_.out (by kernel_rfl)) (fun _ _ _ h => h) (Or.inl ⟨by rfl, ?_⟩) ?_ ?_
                            rotate_left
                            ·intro w'
                             go_simp
                             with_reducible rfl
                            rotate_left
                            ·simp only [Act.put, List.setIfInBounds_toArray, List.set_cons_zero, List.set_cons_succ, i64_w, i32_w]
                             rfl
                            refine pure_ (i := 2) (N := some 131) (v := ?_) (a' := ?_) #[true, true, true, false, false, false, false, false, false, false] rfl rfl (any_of HT_.out (by kernel_rfl)) (fun _ _ _ h => h) (Or.inl ⟨by rfl, ?_⟩) ?_ ?_
                            rotate_left
                            ·intro w'
                             go_simp
                             with_reducible rfl
                            rotate_left
                            ·simp only [Act.put, List.setIfInBounds_toArray, List.set_cons_zero, List.set_cons_succ, i64_w, i32_w]
                             rfl
                            refine pure_ (i := 4) (N := some 133) (v := ?_) (a' := ?_) #[true, true, true, false, true, false, false, false, false, false] rfl rfl (any_of HT_.out (by kernel_rfl)) (fun _ _ _ h => h) (Or.inl ⟨by rfl, ?_⟩) ?_ ?_
                            rotate_left
                            ·intro w'
                             go_simp
                             with_reducible rfl
                            rotate_left
                            ·simp only [Act.put, List.setIfInBounds_toArray, List.set_cons_zero, List.set_cons_succ, i64_w, i32_w]
                             rfl
                            refine pure_ (i := 5) (N := some 134) (v := ?_) (a' := ?_) #[true, true, true, false, true, true, false, false, false, false] rfl rfl (any_of HT_.out (by kernel_rfl)) (fun _ _ _ h => h) (Or.inl ⟨by rfl, ?_⟩) ?_ ?_
                            rotate_left
                            ·intro w'
                             go_simp
                             with_reducible rfl
                            rotate_left
                            ·simp only [Act.put, List.setIfInBounds_toArray, List.set_cons_zero, List.set_cons_succ, i64_w, i32_w]
                             rfl
                            refine pure_ (i := 6) (N := some 135) (v := ?_) (a' := ?_) #[true, true, true, false, true, true, true, false, false, false] rfl rfl (any_of HT_.out (by kernel_rfl)) (fun _ _ _ h => h) (Or.inl ⟨by rfl, ?_⟩) ?_ ?_
                            rotate_left
                            ·intro w'
                             go_simp
                             with_reducible rfl
                            rotate_left
                            ·simp only [Act.put, List.setIfInBounds_toArray, List.set_cons_zero, List.set_cons_succ, i64_w, i32_w]
                             rfl
                            refine take_ (i := 3) (N := some 132) (v := ?_) (a' := ?_) #[true, true, true, true, true, true, true, false, false, false] rfl rfl (take_ofW HT_.out HW_.out (by kernel_rfl)) (fun _ _ _ h => h) (Or.inl ⟨by rfl, ?_⟩) hHeld ?_ ?_
                            rotate_left
                            ·rintro w' ⟨s0, s1⟩
                             go_simp
                             with_reducible rfl
                            rotate_left
                            ·simp only [Act.put, List.setIfInBounds_toArray, List.set_cons_zero, List.set_cons_succ, i64_w, i32_w]
                             rfl
                            refine take_ (i := 7) (N := some 136) (v := ?_) (a' := ?_) #[true, true, true, true, true, true, true, true, false, false] rfl rfl (take_ofW HT_.out HW_.out (by kernel_rfl)) (fun _ _ _ h => h) (Or.inl ⟨by rfl, ?_⟩) hHeld ?_ ?_
                            rotate_left
                            ·rintro w' ⟨s0, s1⟩
                             go_simp
                             with_reducible rfl
                            rotate_left
                            ·simp only [Act.put, List.setIfInBounds_toArray, List.set_cons_zero, List.set_cons_succ, i64_w, i32_w]
                             rfl
                            refine pure_ (i := 8) (N := some 137) (v := ?_) (a' := ?_) #[true, true, true, true, true, true, true, true, true, false] rfl rfl (any_of HT_.out (by kernel_rfl)) (fun _ _ _ h => h) (Or.inl ⟨by rfl, ?_⟩) ?_ ?_
                            rotate_left
                            ·intro w'
                             go_simp
                             with_reducible rfl
                            rotate_left
                            ·simp only [Act.put, List.setIfInBounds_toArray, List.set_cons_zero, List.set_cons_succ, i64_w, i32_w]
                             rfl
                            refine pure_ (i := 9) (N := some 138) (v := ?_) (a' := ?_) #[true, true, true, true, true, true, true, true, true, true] rfl rfl (any_of HT_.out (by kernel_rfl)) (fun _ _ _ h => h) (Or.inl ⟨by rfl, ?_⟩) ?_ ?_
                            rotate_left
                            ·intro w'
                             go_simp
                             with_reducible rfl
                            rotate_left
                            ·simp only [Act.put, List.setIfInBounds_toArray, List.set_cons_zero, List.set_cons_succ, i64_w, i32_w]
                             rfl
                            refine done_ (done_of HT_.out (by kernel_rfl)) ?_
                            try go_wp2
                            go_roundg k6
                            case measure => have := HJ10.out; have := HK2.out; have := HK3.out; have := HK4.out; have := HJ54.out; have := HK6.out; omega
                            case rel => exact ⟨(wrap64 (x23_6 + 1)), (by first | rfl | (simp; done) | (simp [*]; done)), H', ⟨by have := HJ10.out; have := HK2.out; have := HK3.out; have := HK4.out; have := HJ54.out; have := HK6.out; omega⟩, ⟨by (with_reducible repeat first | apply Kd.R_alloc | apply Kd.R_drewN | apply Kd.R_drew); exact HO_12.out⟩, ⟨by (with_reducible repeat first | apply Kd.R_alloc | apply Kd.R_drewN | apply Kd.R_drew); exact HO_14.out⟩, ⟨by (with_reducible repeat first | apply Kd.R_alloc | apply Kd.R_drewN | apply Kd.R_drew); exact HO_228003.out⟩, ⟨by (with_reducible repeat first | refine blk_drewN ?_ _ | refine blk_drew ?_ | refine blk_alloc ?_ _); exact BK227.out⟩, ⟨by repeat (first | (with_reducible first | exact HB.out | apply below_alloc | apply pw_below_drewN | apply below_drew1 | refine below_set ?_ GE227.out) | exact HB.out)⟩⟩
                          ·rw [if_neg c74] at H
                           exact absurd H (by simp)
                         ·rw [if_neg c73] at H
                          exact absurd H (by simp)
                        ·rw [if_neg c72] at H
                         exact absurd H (by simp)
                       ·rw [if_neg c71] at H
                        exact absurd H (by simp)
                      ·rw [if_neg c70] at H
                       have c70b0 : decide (x23_6 < x20_4) = false := decide_eq_false c70
                       clear c70
                       have H' := Aside0.mk H
                       clear H
                       go_wp2
                       go_roundg k6
                       case measure => have := HJ10.out; have := HK2.out; have := HK3.out; have := HK4.out; have := HJ54.out; have := HK6.out; omega
                       case rel => exact ⟨(wrap64 (x20_4 + 1)), (by first | rfl | (simp; done) | (simp [*]; done)), H', ⟨by have := HJ10.out; have := HK2.out; have := HK3.out; have := HK4.out; have := HJ54.out; have := HK6.out; omega⟩, ⟨by (with_reducible repeat first | apply Kd.R_alloc | apply Kd.R_drewN | apply Kd.R_drew); exact HO_12.out⟩, ⟨by (with_reducible repeat first | apply Kd.R_alloc | apply Kd.R_drewN | apply Kd.R_drew); exact HO_14.out⟩, ⟨by (with_reducible repeat first | apply Kd.R_alloc | apply Kd.R_drewN | apply Kd.R_drew); exact HO_228003.out⟩, ⟨by (with_reducible repeat first | refine blk_drewN ?_ _ | refine blk_drew ?_ | refine blk_alloc ?_ _); exact BK227.out⟩, ⟨by repeat (first | (with_reducible first | exact HB.out | apply below_alloc | apply pw_below_drewN | apply below_drew1 | refine below_set ?_ GE227.out) | exact HB.out)⟩⟩
                ·rw [if_neg c53] at H
                 exact absurd H (by simp)
               ·rw [if_neg c52] at H
                have c52b0 : decide (x20_4 < (t235.length : Int)) = false := decide_eq_false c52
                clear c52
                obtain rfl := Option.some.inj H
                obtain ⟨Ao77, co77, eo77⟩ := Kd.R_slice HO_14.out
                subst eo77
                go_wp2
                go_ret
                exact ⟨by first | rfl | (simp [errW_none, errW_some] <;> rfl) | (simp only [← hji25]; first | rfl | (simp [errW_none, errW_some] <;> rfl)) | (simp [*, errW_none, errW_some] <;> rfl), by repeat (first | (with_reducible first | exact HB.out | apply below_alloc | apply pw_below_drewN | apply below_drew1 | refine below_set ?_ GE227.out) | exact HB.out)⟩
      ·rw [if_neg c27] at H
       exact absurd H (by simp)
     ·rw [if_neg c26] at H
      exact absurd H (by simp)
 ·replace c6 := Bool.eq_false_iff.mpr c6
  subst c6
  have H1 : (some false) = some r := by rw [if_neg (show ¬ (false = true) by decide)] at H; exact H
  clear H
  have H := H1
  clear H1
  exact absurd ((Option.some.inj H).trans hrT_.out) (by simp)
/-- THE ONE PURE STATEMENT of racewaylaw7_LevelFew. -/
def racewaylaw7_LevelFew.Pure : Prop := ∀ (a0 : Int) (a1 : Int) (l2 : List (S72)) (l3 : List Int), (Lit.int .i64 a0).wf = true → (Lit.int .i64 a1).wf = true → l2.length ≤ maxLen → (∀ x ∈ l2, (Lit.int .i64 x.f0).wf = true ∧ (Lit.int .i64 x.f1).wf = true ∧ (Lit.int .i64 x.f2).wf = true) → l3.length ≤ maxLen → l3.length * 8 ≤ 140737488351232 → (∀ x ∈ l3, (Lit.int .i64 x).wf = true) → ∃ k, racewaylaw7_LevelFew.f k a0 a1 l2 l3 = some true
theorem racewaylaw7_LevelFew.walk (P : racewaylaw7_LevelFew.Pure) (a0 : Int) (a1 : Int) (A2 : Option Addr) (c2 : Nat) (l2 : List (S72)) (A3 : Option Addr) (c3 : Nat) (l3 : List Int) (w : World) (w0 : (Lit.int .i64 a0).wf = true) (w1 : (Lit.int .i64 a1).wf = true) (hr2 : Kd.C k72 w A2 l2.length l2) (hc2 : l2.length ≤ c2) (hm2 : l2.length ≤ maxLen) (hw2 : (∀ x ∈ l2, (Lit.int .i64 x.f0).wf = true ∧ (Lit.int .i64 x.f1).wf = true ∧ (Lit.int .i64 x.f2).wf = true)) (hr3 : Kd.C (Kd.int .i64) w A3 l3.length l3) (hc3 : l3.length ≤ c3) (hm3 : l3.length ≤ maxLen) (y3 : l3.length * 8 ≤ 140737488351232) (hw3 : (∀ x ∈ l3, (Lit.int .i64 x).wf = true)) :
  Calls Try.prog 5 #[.int .i64 a0, .int .i64 a1, .slice A2 l2.length c2, .slice A3 l3.length c3] w fun e w' => e = .returned (.bool true) ∧ Below w.heap.size w w' := by
 obtain ⟨k, h⟩ := P a0 a1 l2 l3 w0 w1 hm2 hw2 hm3 y3 hw3
 refine (racewaylaw7_LevelFew.calls k a0 a1 _ _ l2 _ _ l3 true w hr2 hc2 hr3 hc3 h ⟨rfl⟩).mono ?_
 rintro e w' ⟨rfl, hd⟩
 exact ⟨rfl, hd⟩
end Go.Proofs.Ytbppeffcikphcaa.PLevelFew
