/- LevelWalks, for every input: printed by wip/myprint, by hand where it says MANUAL. -/
import Derived.Test.YtbppeffcikphcaaPLevelWalksx0
import Derived.Test.YtbppeffcikphcaaPLevelWalksx6
import Derived.Test.YtbppeffcikphcaaPLevelWalksx7
import Derived.Test.YtbppeffcikphcaaPLevelWalksx8
import Derived.Test.YtbppeffcikphcaaPLevelWalksx9
import Derived.Test.YtbppeffcikphcaaPLevelWalksx10
import Derived.Test.YtbppeffcikphcaaPLevelWalksx11
import Derived.Test.YtbppeffcikphcaaPLevelWalksx12
import Derived.Test.YtbppeffcikphcaaPLevelWalksx14
import Derived.Test.YtbppeffcikphcaaPLevelWalksx15
import Derived.Test.YtbppeffcikphcaaPLevelWalksx16
namespace Go.Proofs.Ytbppeffcikphcaa.PLevelWalks
open Go.RowKit Go.Proofs.YtbppeffcikphcaaW.PrintWords Go.Proofs.YtbppeffcikphcaaW.PrintLast Go.Proofs.YtbppeffcikphcaaW.PrintMore
attribute [local go_sem] max2_int min2_int max_two min_two max_three min_three max_four min_four
set_option linter.unusedVariables false
set_option linter.unusedSimpArgs false
/-! ### r7_LevelWalks: function 10 -/
mutual
def r7_LevelWalks.j0 : Nat → Int → Int → List (S72) → List Int → List Int → Bool → Bool → Option (Bool)
 | 0, _, _, _, _, _, _, _ => none
 | k + 1, x0, x1, x2, x3, x4, x11, x41 => if x41 = true then (some x11) else ((r7_made.f k x0 x1 x2).bind fun bt239 => ((r7_routed.f k bt239.1 bt239.2.1 bt239.2.2.1 bt239.2.2.2 x3).bind fun t246 => ((residual_Room.f k bt239.1 bt239.2.1 bt239.2.2.1 bt239.2.2.2 t246).bind fun bt249 => ((level_Deep.f k bt239.1 bt239.2.1 bt239.2.2.1 bt239.2.2.2 t246 1).bind fun bt253 => ((level_Levels.f k bt239.1 bt239.2.1 bt239.2.2.1 bt239.2.2.2 t246 1).bind fun bt255 => (if bt253.2 = 0 then (if bt255.2 = 0 then (if 0 ≤ bt239.2.2.1 then (if bt239.2.2.1 < (bt255.1.length : Int) then (r7_LevelWalks.j1 k x4 t246 bt249.1 bt253.1 (bt253.1 != (rd bt255.1 bt239.2.2.1)) bt239.1 bt239.2.1 bt239.2.2.1 bt239.2.2.2) else (none)) else (none)) else (r7_LevelWalks.j1 k x4 t246 bt249.1 bt253.1 true bt239.1 bt239.2.1 bt239.2.2.1 bt239.2.2.2)) else (r7_LevelWalks.j1 k x4 t246 bt249.1 bt253.1 true bt239.1 bt239.2.1 bt239.2.2.1 bt239.2.2.2)))))))
def r7_LevelWalks.j1 : Nat → List Int → List Int → List Int → Int → Bool → Int → Int → Int → List (S49) → Option (Bool)
 | 0, _, _, _, _, _, _, _, _, _ => none
 | k + 1, x4, x13, x14, x16, x82, x246000, x246001, x246002, x246003 => if x82 = true then (some false) else (r7_LevelWalks.l0 k x4 x13 x14 x16 x246001 0 0 x246000 x246001 x246002 x246003)
def r7_LevelWalks.j4 : Nat → List Int → Int → Int → Int → Int → Int → Int → List (S49) → Option (Bool)
 | 0, _, _, _, _, _, _, _, _ => none
 | k + 1, x13, x16, x20, x21, x246000, x246001, x246002, x246003 => if x20 = x246002 then (if x16 < 0 then (r7_LevelWalks.j5 k x13 x16 true x246000 x246001 x246002 x246003) else (r7_LevelWalks.j5 k x13 x16 (decide (x21 < x16)) x246000 x246001 x246002 x246003)) else (r7_LevelWalks.j5 k x13 x16 false x246000 x246001 x246002 x246003)
def r7_LevelWalks.j5 : Nat → List Int → Int → Bool → Int → Int → Int → List (S49) → Option (Bool)
 | 0, _, _, _, _, _, _, _ => none
 | k + 1, x13, x16, x139, x246000, x246001, x246002, x246003 => if x139 = true then (some false) else ((level_Leads.f k x246000 x246001 x246002 x246003 x13 1).bind fun bt269 => (r7_LevelWalks.l1 k x16 x246002 bt269.1 bt269.2 0 x246000 x246001 x246002 x246003))
def r7_LevelWalks.l1 : Nat → Int → Int → List Int → Int → Int → Int → Int → Int → List (S49) → Option (Bool)
 | 0, _, _, _, _, _, _, _, _, _ => none
 | k + 1, x16, x20, x27, x28, x29, x246000, x246001, x246002, x246003 => if x29 < x16 then (r7_LevelWalks.l2 k x16 x20 x27 x28 x29 0 0 x246000 x246001 x246002 x246003) else (if x28 = 0 then (if x16 < 0 then (some true) else (some (x20 == x246001))) else (some false))
def r7_LevelWalks.l2 : Nat → Int → Int → List Int → Int → Int → Int → Int → Int → Int → Int → List (S49) → Option (Bool)
 | 0, _, _, _, _, _, _, _, _, _, _, _ => none
 | k + 1, x16, x20, x27, x28, x29, x30, x31, x246000, x246001, x246002, x246003 => if x31 < (x27.length : Int) then (if 0 ≤ x31 then ((residual_Ends.f k x246000 x246001 x246002 x246003 (rd x27 x31)).bind fun bt274 => (if bt274.2 = x20 then (r7_LevelWalks.l2 k x16 x20 x27 x28 x29 bt274.1 (wrap64 (x31 + 1)) x246000 x246001 x246002 x246003) else (r7_LevelWalks.l2 k x16 x20 x27 x28 x29 x30 (wrap64 (x31 + 1)) x246000 x246001 x246002 x246003))) else (none)) else (r7_LevelWalks.l1 k x16 x30 x27 x28 (wrap64 (x29 + 1)) x246000 x246001 x246002 x246003)
def r7_LevelWalks.l0 : Nat → List Int → List Int → List Int → Int → Int → Int → Int → Int → Int → Int → List (S49) → Option (Bool)
 | 0, _, _, _, _, _, _, _, _, _, _, _ => none
 | k + 1, x4, x13, x14, x16, x20, x21, x22, x246000, x246001, x246002, x246003 => if x22 < (x4.length : Int) then (r7_LevelWalks.j3 k x4 x13 x14 x16 x20 x21 x22 (x20 != x246002) x246000 x246001 x246002 x246003) else (r7_LevelWalks.j3 k x4 x13 x14 x16 x20 x21 x22 false x246000 x246001 x246002 x246003)
def r7_LevelWalks.j3 : Nat → List Int → List Int → List Int → Int → Int → Int → Int → Bool → Int → Int → Int → List (S49) → Option (Bool)
 | 0, _, _, _, _, _, _, _, _, _, _, _, _ => none
 | k + 1, x4, x13, x14, x16, x20, x21, x22, x94, x246000, x246001, x246002, x246003 => if x94 = true then ((residual_From.f k x246000 x246001 x246002 x246003 x20).bind fun t260 => (if (t260.length : Int) = 0 then (r7_LevelWalks.j4 k x13 x16 x20 x21 x246000 x246001 x246002 x246003) else (if 0 ≤ x22 then (if x22 < (x4.length : Int) then ((r7_pick.f (rd x4 x22) (t260.length : Int)).bind fun t264 => (if 0 ≤ t264 then (if t264 < (t260.length : Int) then (if 0 ≤ (rd t260 t264) then (if (rd t260 t264) < (x14.length : Int) then (if (rd x14 (rd t260 t264)) > 0 then ((residual_Ends.f k x246000 x246001 x246002 x246003 (rd t260 t264)).bind fun bt267 => (r7_LevelWalks.l0 k x4 x13 x14 x16 bt267.2 (wrap64 (x21 + 1)) (wrap64 (x22 + 1)) x246000 x246001 x246002 x246003)) else (r7_LevelWalks.l0 k x4 x13 x14 x16 x20 x21 (wrap64 (x22 + 1)) x246000 x246001 x246002 x246003)) else (none)) else (none)) else (none)) else (none))) else (none)) else (none)))) else (r7_LevelWalks.j4 k x13 x16 x20 x21 x246000 x246001 x246002 x246003)
end
def r7_LevelWalks.f (k : Nat) (a0 : Int) (a1 : Int) (l2 : List (S72)) (l3 : List Int) (l4 : List Int) : Option (Bool) := (r7_shown.f k).bind fun t238 => (if t238 = true then (r7_LevelWalks.j0 k a0 a1 l2 l3 l4 t238 (decide ((l4.length : Int) > 60))) else (r7_LevelWalks.j0 k a0 a1 l2 l3 l4 t238 true))
theorem r7_LevelWalks.mono_l : ∀ k, (∀ y0 y1 y2 y3 y4 y5 y6, LeO (r7_LevelWalks.j0 k y0 y1 y2 y3 y4 y5 y6) (r7_LevelWalks.j0 (k + 1) y0 y1 y2 y3 y4 y5 y6)) ∧ (∀ y0 y1 y2 y3 y4 y5 y6 y7 y8, LeO (r7_LevelWalks.j1 k y0 y1 y2 y3 y4 y5 y6 y7 y8) (r7_LevelWalks.j1 (k + 1) y0 y1 y2 y3 y4 y5 y6 y7 y8)) ∧ (∀ y0 y1 y2 y3 y4 y5 y6 y7, LeO (r7_LevelWalks.j4 k y0 y1 y2 y3 y4 y5 y6 y7) (r7_LevelWalks.j4 (k + 1) y0 y1 y2 y3 y4 y5 y6 y7)) ∧ (∀ y0 y1 y2 y3 y4 y5 y6, LeO (r7_LevelWalks.j5 k y0 y1 y2 y3 y4 y5 y6) (r7_LevelWalks.j5 (k + 1) y0 y1 y2 y3 y4 y5 y6)) ∧ (∀ y0 y1 y2 y3 y4 y5 y6 y7 y8, LeO (r7_LevelWalks.l1 k y0 y1 y2 y3 y4 y5 y6 y7 y8) (r7_LevelWalks.l1 (k + 1) y0 y1 y2 y3 y4 y5 y6 y7 y8)) ∧ (∀ y0 y1 y2 y3 y4 y5 y6 y7 y8 y9 y10, LeO (r7_LevelWalks.l2 k y0 y1 y2 y3 y4 y5 y6 y7 y8 y9 y10) (r7_LevelWalks.l2 (k + 1) y0 y1 y2 y3 y4 y5 y6 y7 y8 y9 y10)) ∧ (∀ y0 y1 y2 y3 y4 y5 y6 y7 y8 y9 y10, LeO (r7_LevelWalks.l0 k y0 y1 y2 y3 y4 y5 y6 y7 y8 y9 y10) (r7_LevelWalks.l0 (k + 1) y0 y1 y2 y3 y4 y5 y6 y7 y8 y9 y10)) ∧ (∀ y0 y1 y2 y3 y4 y5 y6 y7 y8 y9 y10 y11, LeO (r7_LevelWalks.j3 k y0 y1 y2 y3 y4 y5 y6 y7 y8 y9 y10 y11) (r7_LevelWalks.j3 (k + 1) y0 y1 y2 y3 y4 y5 y6 y7 y8 y9 y10 y11))
 | 0 => ⟨fun _ _ _ _ _ _ _ r h => by simp [r7_LevelWalks.j0] at h, fun _ _ _ _ _ _ _ _ _ r h => by simp [r7_LevelWalks.j1] at h, fun _ _ _ _ _ _ _ _ r h => by simp [r7_LevelWalks.j4] at h, fun _ _ _ _ _ _ _ r h => by simp [r7_LevelWalks.j5] at h, fun _ _ _ _ _ _ _ _ _ r h => by simp [r7_LevelWalks.l1] at h, fun _ _ _ _ _ _ _ _ _ _ _ r h => by simp [r7_LevelWalks.l2] at h, fun _ _ _ _ _ _ _ _ _ _ _ r h => by simp [r7_LevelWalks.l0] at h, fun _ _ _ _ _ _ _ _ _ _ _ _ r h => by simp [r7_LevelWalks.j3] at h⟩
 | k + 1 => by
  obtain ⟨ih0, ih1, ih2, ih3, ih4, ih5, ih6, ih7⟩ := r7_LevelWalks.mono_l k
  refine ⟨?_, ?_, ?_, ?_, ?_, ?_, ?_, ?_⟩
  ·intro y0 y1 y2 y3 y4 y5 y6
   unfold r7_LevelWalks.j0
   repeat' first
   | (with_reducible exact ih0 _ _ _ _ _ _ _)
   | (with_reducible exact ih1 _ _ _ _ _ _ _ _ _)
   | (with_reducible exact ih2 _ _ _ _ _ _ _ _)
   | (with_reducible exact ih3 _ _ _ _ _ _ _)
   | (with_reducible exact ih4 _ _ _ _ _ _ _ _ _)
   | (with_reducible exact ih5 _ _ _ _ _ _ _ _ _ _ _)
   | (with_reducible exact ih6 _ _ _ _ _ _ _ _ _ _ _)
   | (with_reducible exact ih7 _ _ _ _ _ _ _ _ _ _ _ _)
   | (with_reducible exact level_Deep.mono _ _ _ _ _ _ _)
   | (with_reducible exact level_Leads.mono _ _ _ _ _ _ _)
   | (with_reducible exact level_Levels.mono _ _ _ _ _ _ _)
   | (with_reducible exact r7_made.mono _ _ _ _)
   | (with_reducible exact r7_routed.mono _ _ _ _ _ _)
   | (with_reducible exact r7_shown.mono _)
   | (with_reducible exact residual_Ends.mono _ _ _ _ _ _)
   | (with_reducible exact residual_From.mono _ _ _ _ _ _)
   | (with_reducible exact residual_Room.mono _ _ _ _ _ _)
   | (with_reducible exact LeO.refl _)
   | (with_reducible exact LeO.none _)
   | (with_reducible refine LeO.ite ?_ ?_)
   | (with_reducible refine LeO.bind ?_ (fun _ => ?_))
   | exact ih0 _ _ _ _ _ _ _
   | exact ih1 _ _ _ _ _ _ _ _ _
   | exact ih2 _ _ _ _ _ _ _ _
   | exact ih3 _ _ _ _ _ _ _
   | exact ih4 _ _ _ _ _ _ _ _ _
   | exact ih5 _ _ _ _ _ _ _ _ _ _ _
   | exact ih6 _ _ _ _ _ _ _ _ _ _ _
   | exact ih7 _ _ _ _ _ _ _ _ _ _ _ _
   | exact level_Deep.mono _ _ _ _ _ _ _
   | exact level_Leads.mono _ _ _ _ _ _ _
   | exact level_Levels.mono _ _ _ _ _ _ _
   | exact r7_made.mono _ _ _ _
   | exact r7_routed.mono _ _ _ _ _ _
   | exact r7_shown.mono _
   | exact residual_Ends.mono _ _ _ _ _ _
   | exact residual_From.mono _ _ _ _ _ _
   | exact residual_Room.mono _ _ _ _ _ _
   | exact LeO.none _
   | refine LeO.ite ?_ ?_
   | refine LeO.bind ?_ (fun _ => ?_)
  ·intro y0 y1 y2 y3 y4 y5 y6 y7 y8
   unfold r7_LevelWalks.j1
   repeat' first
   | (with_reducible exact ih0 _ _ _ _ _ _ _)
   | (with_reducible exact ih1 _ _ _ _ _ _ _ _ _)
   | (with_reducible exact ih2 _ _ _ _ _ _ _ _)
   | (with_reducible exact ih3 _ _ _ _ _ _ _)
   | (with_reducible exact ih4 _ _ _ _ _ _ _ _ _)
   | (with_reducible exact ih5 _ _ _ _ _ _ _ _ _ _ _)
   | (with_reducible exact ih6 _ _ _ _ _ _ _ _ _ _ _)
   | (with_reducible exact ih7 _ _ _ _ _ _ _ _ _ _ _ _)
   | (with_reducible exact level_Deep.mono _ _ _ _ _ _ _)
   | (with_reducible exact level_Leads.mono _ _ _ _ _ _ _)
   | (with_reducible exact level_Levels.mono _ _ _ _ _ _ _)
   | (with_reducible exact r7_made.mono _ _ _ _)
   | (with_reducible exact r7_routed.mono _ _ _ _ _ _)
   | (with_reducible exact r7_shown.mono _)
   | (with_reducible exact residual_Ends.mono _ _ _ _ _ _)
   | (with_reducible exact residual_From.mono _ _ _ _ _ _)
   | (with_reducible exact residual_Room.mono _ _ _ _ _ _)
   | (with_reducible exact LeO.refl _)
   | (with_reducible exact LeO.none _)
   | (with_reducible refine LeO.ite ?_ ?_)
   | (with_reducible refine LeO.bind ?_ (fun _ => ?_))
   | exact ih0 _ _ _ _ _ _ _
   | exact ih1 _ _ _ _ _ _ _ _ _
   | exact ih2 _ _ _ _ _ _ _ _
   | exact ih3 _ _ _ _ _ _ _
   | exact ih4 _ _ _ _ _ _ _ _ _
   | exact ih5 _ _ _ _ _ _ _ _ _ _ _
   | exact ih6 _ _ _ _ _ _ _ _ _ _ _
   | exact ih7 _ _ _ _ _ _ _ _ _ _ _ _
   | exact level_Deep.mono _ _ _ _ _ _ _
   | exact level_Leads.mono _ _ _ _ _ _ _
   | exact level_Levels.mono _ _ _ _ _ _ _
   | exact r7_made.mono _ _ _ _
   | exact r7_routed.mono _ _ _ _ _ _
   | exact r7_shown.mono _
   | exact residual_Ends.mono _ _ _ _ _ _
   | exact residual_From.mono _ _ _ _ _ _
   | exact residual_Room.mono _ _ _ _ _ _
   | exact LeO.none _
   | refine LeO.ite ?_ ?_
   | refine LeO.bind ?_ (fun _ => ?_)
  ·intro y0 y1 y2 y3 y4 y5 y6 y7
   unfold r7_LevelWalks.j4
   repeat' first
   | (with_reducible exact ih0 _ _ _ _ _ _ _)
   | (with_reducible exact ih1 _ _ _ _ _ _ _ _ _)
   | (with_reducible exact ih2 _ _ _ _ _ _ _ _)
   | (with_reducible exact ih3 _ _ _ _ _ _ _)
   | (with_reducible exact ih4 _ _ _ _ _ _ _ _ _)
   | (with_reducible exact ih5 _ _ _ _ _ _ _ _ _ _ _)
   | (with_reducible exact ih6 _ _ _ _ _ _ _ _ _ _ _)
   | (with_reducible exact ih7 _ _ _ _ _ _ _ _ _ _ _ _)
   | (with_reducible exact level_Deep.mono _ _ _ _ _ _ _)
   | (with_reducible exact level_Leads.mono _ _ _ _ _ _ _)
   | (with_reducible exact level_Levels.mono _ _ _ _ _ _ _)
   | (with_reducible exact r7_made.mono _ _ _ _)
   | (with_reducible exact r7_routed.mono _ _ _ _ _ _)
   | (with_reducible exact r7_shown.mono _)
   | (with_reducible exact residual_Ends.mono _ _ _ _ _ _)
   | (with_reducible exact residual_From.mono _ _ _ _ _ _)
   | (with_reducible exact residual_Room.mono _ _ _ _ _ _)
   | (with_reducible exact LeO.refl _)
   | (with_reducible exact LeO.none _)
   | (with_reducible refine LeO.ite ?_ ?_)
   | (with_reducible refine LeO.bind ?_ (fun _ => ?_))
   | exact ih0 _ _ _ _ _ _ _
   | exact ih1 _ _ _ _ _ _ _ _ _
   | exact ih2 _ _ _ _ _ _ _ _
   | exact ih3 _ _ _ _ _ _ _
   | exact ih4 _ _ _ _ _ _ _ _ _
   | exact ih5 _ _ _ _ _ _ _ _ _ _ _
   | exact ih6 _ _ _ _ _ _ _ _ _ _ _
   | exact ih7 _ _ _ _ _ _ _ _ _ _ _ _
   | exact level_Deep.mono _ _ _ _ _ _ _
   | exact level_Leads.mono _ _ _ _ _ _ _
   | exact level_Levels.mono _ _ _ _ _ _ _
   | exact r7_made.mono _ _ _ _
   | exact r7_routed.mono _ _ _ _ _ _
   | exact r7_shown.mono _
   | exact residual_Ends.mono _ _ _ _ _ _
   | exact residual_From.mono _ _ _ _ _ _
   | exact residual_Room.mono _ _ _ _ _ _
   | exact LeO.none _
   | refine LeO.ite ?_ ?_
   | refine LeO.bind ?_ (fun _ => ?_)
  ·intro y0 y1 y2 y3 y4 y5 y6
   unfold r7_LevelWalks.j5
   repeat' first
   | (with_reducible exact ih0 _ _ _ _ _ _ _)
   | (with_reducible exact ih1 _ _ _ _ _ _ _ _ _)
   | (with_reducible exact ih2 _ _ _ _ _ _ _ _)
   | (with_reducible exact ih3 _ _ _ _ _ _ _)
   | (with_reducible exact ih4 _ _ _ _ _ _ _ _ _)
   | (with_reducible exact ih5 _ _ _ _ _ _ _ _ _ _ _)
   | (with_reducible exact ih6 _ _ _ _ _ _ _ _ _ _ _)
   | (with_reducible exact ih7 _ _ _ _ _ _ _ _ _ _ _ _)
   | (with_reducible exact level_Deep.mono _ _ _ _ _ _ _)
   | (with_reducible exact level_Leads.mono _ _ _ _ _ _ _)
   | (with_reducible exact level_Levels.mono _ _ _ _ _ _ _)
   | (with_reducible exact r7_made.mono _ _ _ _)
   | (with_reducible exact r7_routed.mono _ _ _ _ _ _)
   | (with_reducible exact r7_shown.mono _)
   | (with_reducible exact residual_Ends.mono _ _ _ _ _ _)
   | (with_reducible exact residual_From.mono _ _ _ _ _ _)
   | (with_reducible exact residual_Room.mono _ _ _ _ _ _)
   | (with_reducible exact LeO.refl _)
   | (with_reducible exact LeO.none _)
   | (with_reducible refine LeO.ite ?_ ?_)
   | (with_reducible refine LeO.bind ?_ (fun _ => ?_))
   | exact ih0 _ _ _ _ _ _ _
   | exact ih1 _ _ _ _ _ _ _ _ _
   | exact ih2 _ _ _ _ _ _ _ _
   | exact ih3 _ _ _ _ _ _ _
   | exact ih4 _ _ _ _ _ _ _ _ _
   | exact ih5 _ _ _ _ _ _ _ _ _ _ _
   | exact ih6 _ _ _ _ _ _ _ _ _ _ _
   | exact ih7 _ _ _ _ _ _ _ _ _ _ _ _
   | exact level_Deep.mono _ _ _ _ _ _ _
   | exact level_Leads.mono _ _ _ _ _ _ _
   | exact level_Levels.mono _ _ _ _ _ _ _
   | exact r7_made.mono _ _ _ _
   | exact r7_routed.mono _ _ _ _ _ _
   | exact r7_shown.mono _
   | exact residual_Ends.mono _ _ _ _ _ _
   | exact residual_From.mono _ _ _ _ _ _
   | exact residual_Room.mono _ _ _ _ _ _
   | exact LeO.none _
   | refine LeO.ite ?_ ?_
   | refine LeO.bind ?_ (fun _ => ?_)
  ·intro y0 y1 y2 y3 y4 y5 y6 y7 y8
   unfold r7_LevelWalks.l1
   repeat' first
   | (with_reducible exact ih0 _ _ _ _ _ _ _)
   | (with_reducible exact ih1 _ _ _ _ _ _ _ _ _)
   | (with_reducible exact ih2 _ _ _ _ _ _ _ _)
   | (with_reducible exact ih3 _ _ _ _ _ _ _)
   | (with_reducible exact ih4 _ _ _ _ _ _ _ _ _)
   | (with_reducible exact ih5 _ _ _ _ _ _ _ _ _ _ _)
   | (with_reducible exact ih6 _ _ _ _ _ _ _ _ _ _ _)
   | (with_reducible exact ih7 _ _ _ _ _ _ _ _ _ _ _ _)
   | (with_reducible exact level_Deep.mono _ _ _ _ _ _ _)
   | (with_reducible exact level_Leads.mono _ _ _ _ _ _ _)
   | (with_reducible exact level_Levels.mono _ _ _ _ _ _ _)
   | (with_reducible exact r7_made.mono _ _ _ _)
   | (with_reducible exact r7_routed.mono _ _ _ _ _ _)
   | (with_reducible exact r7_shown.mono _)
   | (with_reducible exact residual_Ends.mono _ _ _ _ _ _)
   | (with_reducible exact residual_From.mono _ _ _ _ _ _)
   | (with_reducible exact residual_Room.mono _ _ _ _ _ _)
   | (with_reducible exact LeO.refl _)
   | (with_reducible exact LeO.none _)
   | (with_reducible refine LeO.ite ?_ ?_)
   | (with_reducible refine LeO.bind ?_ (fun _ => ?_))
   | exact ih0 _ _ _ _ _ _ _
   | exact ih1 _ _ _ _ _ _ _ _ _
   | exact ih2 _ _ _ _ _ _ _ _
   | exact ih3 _ _ _ _ _ _ _
   | exact ih4 _ _ _ _ _ _ _ _ _
   | exact ih5 _ _ _ _ _ _ _ _ _ _ _
   | exact ih6 _ _ _ _ _ _ _ _ _ _ _
   | exact ih7 _ _ _ _ _ _ _ _ _ _ _ _
   | exact level_Deep.mono _ _ _ _ _ _ _
   | exact level_Leads.mono _ _ _ _ _ _ _
   | exact level_Levels.mono _ _ _ _ _ _ _
   | exact r7_made.mono _ _ _ _
   | exact r7_routed.mono _ _ _ _ _ _
   | exact r7_shown.mono _
   | exact residual_Ends.mono _ _ _ _ _ _
   | exact residual_From.mono _ _ _ _ _ _
   | exact residual_Room.mono _ _ _ _ _ _
   | exact LeO.none _
   | refine LeO.ite ?_ ?_
   | refine LeO.bind ?_ (fun _ => ?_)
  ·intro y0 y1 y2 y3 y4 y5 y6 y7 y8 y9 y10
   unfold r7_LevelWalks.l2
   repeat' first
   | (with_reducible exact ih0 _ _ _ _ _ _ _)
   | (with_reducible exact ih1 _ _ _ _ _ _ _ _ _)
   | (with_reducible exact ih2 _ _ _ _ _ _ _ _)
   | (with_reducible exact ih3 _ _ _ _ _ _ _)
   | (with_reducible exact ih4 _ _ _ _ _ _ _ _ _)
   | (with_reducible exact ih5 _ _ _ _ _ _ _ _ _ _ _)
   | (with_reducible exact ih6 _ _ _ _ _ _ _ _ _ _ _)
   | (with_reducible exact ih7 _ _ _ _ _ _ _ _ _ _ _ _)
   | (with_reducible exact level_Deep.mono _ _ _ _ _ _ _)
   | (with_reducible exact level_Leads.mono _ _ _ _ _ _ _)
   | (with_reducible exact level_Levels.mono _ _ _ _ _ _ _)
   | (with_reducible exact r7_made.mono _ _ _ _)
   | (with_reducible exact r7_routed.mono _ _ _ _ _ _)
   | (with_reducible exact r7_shown.mono _)
   | (with_reducible exact residual_Ends.mono _ _ _ _ _ _)
   | (with_reducible exact residual_From.mono _ _ _ _ _ _)
   | (with_reducible exact residual_Room.mono _ _ _ _ _ _)
   | (with_reducible exact LeO.refl _)
   | (with_reducible exact LeO.none _)
   | (with_reducible refine LeO.ite ?_ ?_)
   | (with_reducible refine LeO.bind ?_ (fun _ => ?_))
   | exact ih0 _ _ _ _ _ _ _
   | exact ih1 _ _ _ _ _ _ _ _ _
   | exact ih2 _ _ _ _ _ _ _ _
   | exact ih3 _ _ _ _ _ _ _
   | exact ih4 _ _ _ _ _ _ _ _ _
   | exact ih5 _ _ _ _ _ _ _ _ _ _ _
   | exact ih6 _ _ _ _ _ _ _ _ _ _ _
   | exact ih7 _ _ _ _ _ _ _ _ _ _ _ _
   | exact level_Deep.mono _ _ _ _ _ _ _
   | exact level_Leads.mono _ _ _ _ _ _ _
   | exact level_Levels.mono _ _ _ _ _ _ _
   | exact r7_made.mono _ _ _ _
   | exact r7_routed.mono _ _ _ _ _ _
   | exact r7_shown.mono _
   | exact residual_Ends.mono _ _ _ _ _ _
   | exact residual_From.mono _ _ _ _ _ _
   | exact residual_Room.mono _ _ _ _ _ _
   | exact LeO.none _
   | refine LeO.ite ?_ ?_
   | refine LeO.bind ?_ (fun _ => ?_)
  ·intro y0 y1 y2 y3 y4 y5 y6 y7 y8 y9 y10
   unfold r7_LevelWalks.l0
   repeat' first
   | (with_reducible exact ih0 _ _ _ _ _ _ _)
   | (with_reducible exact ih1 _ _ _ _ _ _ _ _ _)
   | (with_reducible exact ih2 _ _ _ _ _ _ _ _)
   | (with_reducible exact ih3 _ _ _ _ _ _ _)
   | (with_reducible exact ih4 _ _ _ _ _ _ _ _ _)
   | (with_reducible exact ih5 _ _ _ _ _ _ _ _ _ _ _)
   | (with_reducible exact ih6 _ _ _ _ _ _ _ _ _ _ _)
   | (with_reducible exact ih7 _ _ _ _ _ _ _ _ _ _ _ _)
   | (with_reducible exact level_Deep.mono _ _ _ _ _ _ _)
   | (with_reducible exact level_Leads.mono _ _ _ _ _ _ _)
   | (with_reducible exact level_Levels.mono _ _ _ _ _ _ _)
   | (with_reducible exact r7_made.mono _ _ _ _)
   | (with_reducible exact r7_routed.mono _ _ _ _ _ _)
   | (with_reducible exact r7_shown.mono _)
   | (with_reducible exact residual_Ends.mono _ _ _ _ _ _)
   | (with_reducible exact residual_From.mono _ _ _ _ _ _)
   | (with_reducible exact residual_Room.mono _ _ _ _ _ _)
   | (with_reducible exact LeO.refl _)
   | (with_reducible exact LeO.none _)
   | (with_reducible refine LeO.ite ?_ ?_)
   | (with_reducible refine LeO.bind ?_ (fun _ => ?_))
   | exact ih0 _ _ _ _ _ _ _
   | exact ih1 _ _ _ _ _ _ _ _ _
   | exact ih2 _ _ _ _ _ _ _ _
   | exact ih3 _ _ _ _ _ _ _
   | exact ih4 _ _ _ _ _ _ _ _ _
   | exact ih5 _ _ _ _ _ _ _ _ _ _ _
   | exact ih6 _ _ _ _ _ _ _ _ _ _ _
   | exact ih7 _ _ _ _ _ _ _ _ _ _ _ _
   | exact level_Deep.mono _ _ _ _ _ _ _
   | exact level_Leads.mono _ _ _ _ _ _ _
   | exact level_Levels.mono _ _ _ _ _ _ _
   | exact r7_made.mono _ _ _ _
   | exact r7_routed.mono _ _ _ _ _ _
   | exact r7_shown.mono _
   | exact residual_Ends.mono _ _ _ _ _ _
   | exact residual_From.mono _ _ _ _ _ _
   | exact residual_Room.mono _ _ _ _ _ _
   | exact LeO.none _
   | refine LeO.ite ?_ ?_
   | refine LeO.bind ?_ (fun _ => ?_)
  ·intro y0 y1 y2 y3 y4 y5 y6 y7 y8 y9 y10 y11
   unfold r7_LevelWalks.j3
   repeat' first
   | (with_reducible exact ih0 _ _ _ _ _ _ _)
   | (with_reducible exact ih1 _ _ _ _ _ _ _ _ _)
   | (with_reducible exact ih2 _ _ _ _ _ _ _ _)
   | (with_reducible exact ih3 _ _ _ _ _ _ _)
   | (with_reducible exact ih4 _ _ _ _ _ _ _ _ _)
   | (with_reducible exact ih5 _ _ _ _ _ _ _ _ _ _ _)
   | (with_reducible exact ih6 _ _ _ _ _ _ _ _ _ _ _)
   | (with_reducible exact ih7 _ _ _ _ _ _ _ _ _ _ _ _)
   | (with_reducible exact level_Deep.mono _ _ _ _ _ _ _)
   | (with_reducible exact level_Leads.mono _ _ _ _ _ _ _)
   | (with_reducible exact level_Levels.mono _ _ _ _ _ _ _)
   | (with_reducible exact r7_made.mono _ _ _ _)
   | (with_reducible exact r7_routed.mono _ _ _ _ _ _)
   | (with_reducible exact r7_shown.mono _)
   | (with_reducible exact residual_Ends.mono _ _ _ _ _ _)
   | (with_reducible exact residual_From.mono _ _ _ _ _ _)
   | (with_reducible exact residual_Room.mono _ _ _ _ _ _)
   | (with_reducible exact LeO.refl _)
   | (with_reducible exact LeO.none _)
   | (with_reducible refine LeO.ite ?_ ?_)
   | (with_reducible refine LeO.bind ?_ (fun _ => ?_))
   | exact ih0 _ _ _ _ _ _ _
   | exact ih1 _ _ _ _ _ _ _ _ _
   | exact ih2 _ _ _ _ _ _ _ _
   | exact ih3 _ _ _ _ _ _ _
   | exact ih4 _ _ _ _ _ _ _ _ _
   | exact ih5 _ _ _ _ _ _ _ _ _ _ _
   | exact ih6 _ _ _ _ _ _ _ _ _ _ _
   | exact ih7 _ _ _ _ _ _ _ _ _ _ _ _
   | exact level_Deep.mono _ _ _ _ _ _ _
   | exact level_Leads.mono _ _ _ _ _ _ _
   | exact level_Levels.mono _ _ _ _ _ _ _
   | exact r7_made.mono _ _ _ _
   | exact r7_routed.mono _ _ _ _ _ _
   | exact r7_shown.mono _
   | exact residual_Ends.mono _ _ _ _ _ _
   | exact residual_From.mono _ _ _ _ _ _
   | exact residual_Room.mono _ _ _ _ _ _
   | exact LeO.none _
   | refine LeO.ite ?_ ?_
   | refine LeO.bind ?_ (fun _ => ?_)
theorem r7_LevelWalks.mono : ∀ a0 a1 a2 a3 a4 k, LeO (r7_LevelWalks.f k a0 a1 a2 a3 a4) (r7_LevelWalks.f (k + 1) a0 a1 a2 a3 a4) := by
 intro a0 a1 a2 a3 a4 k
 obtain ⟨ih0, ih1, ih2, ih3, ih4, ih5, ih6, ih7⟩ := r7_LevelWalks.mono_l k
 unfold r7_LevelWalks.f
 repeat' first
   | (with_reducible exact ih0 _ _ _ _ _ _ _)
   | (with_reducible exact ih1 _ _ _ _ _ _ _ _ _)
   | (with_reducible exact ih2 _ _ _ _ _ _ _ _)
   | (with_reducible exact ih3 _ _ _ _ _ _ _)
   | (with_reducible exact ih4 _ _ _ _ _ _ _ _ _)
   | (with_reducible exact ih5 _ _ _ _ _ _ _ _ _ _ _)
   | (with_reducible exact ih6 _ _ _ _ _ _ _ _ _ _ _)
   | (with_reducible exact ih7 _ _ _ _ _ _ _ _ _ _ _ _)
   | (with_reducible exact level_Deep.mono _ _ _ _ _ _ _)
   | (with_reducible exact level_Leads.mono _ _ _ _ _ _ _)
   | (with_reducible exact level_Levels.mono _ _ _ _ _ _ _)
   | (with_reducible exact r7_made.mono _ _ _ _)
   | (with_reducible exact r7_routed.mono _ _ _ _ _ _)
   | (with_reducible exact r7_shown.mono _)
   | (with_reducible exact residual_Ends.mono _ _ _ _ _ _)
   | (with_reducible exact residual_From.mono _ _ _ _ _ _)
   | (with_reducible exact residual_Room.mono _ _ _ _ _ _)
   | (with_reducible exact LeO.refl _)
   | (with_reducible exact LeO.none _)
   | (with_reducible refine LeO.ite ?_ ?_)
   | (with_reducible refine LeO.bind ?_ (fun _ => ?_))
   | exact ih0 _ _ _ _ _ _ _
   | exact ih1 _ _ _ _ _ _ _ _ _
   | exact ih2 _ _ _ _ _ _ _ _
   | exact ih3 _ _ _ _ _ _ _
   | exact ih4 _ _ _ _ _ _ _ _ _
   | exact ih5 _ _ _ _ _ _ _ _ _ _ _
   | exact ih6 _ _ _ _ _ _ _ _ _ _ _
   | exact ih7 _ _ _ _ _ _ _ _ _ _ _ _
   | exact level_Deep.mono _ _ _ _ _ _ _
   | exact level_Leads.mono _ _ _ _ _ _ _
   | exact level_Levels.mono _ _ _ _ _ _ _
   | exact r7_made.mono _ _ _ _
   | exact r7_routed.mono _ _ _ _ _ _
   | exact r7_shown.mono _
   | exact residual_Ends.mono _ _ _ _ _ _
   | exact residual_From.mono _ _ _ _ _ _
   | exact residual_Room.mono _ _ _ _ _ _
   | exact LeO.none _
   | refine LeO.ite ?_ ?_
   | refine LeO.bind ?_ (fun _ => ?_)
def r7_LevelWalks.T34 : Bool × List (List Nat × List Nat) := (true, [([], []), ([], []), ([], []), ([1, 2], [1, 2]), ([3], [3]), ([0, 4], [0, 4]), ([5], [5]), ([6], [6]), ([6], [6]), ([7, 5, 0, 1, 2, 3, 4, 5, 6, 7], [7]), ([8, 9, 0, 1, 2, 3, 4, 5, 6, 7, 8, 9], [8])])
def r7_LevelWalks.B34 : List Nat := [0, 0, 0, 6, 14, 31, 63, 127, 127, 255, 1023]
theorem r7_LevelWalks.tab34 : rtab .any (opsOf Try.f10 34) = r7_LevelWalks.T34 := by kernel_rfl
theorem r7_LevelWalks.bits34 : waitsOk r7_LevelWalks.T34.2 r7_LevelWalks.B34 = true := by kernel_rfl
set_option maxHeartbeats 8000000 in
set_option maxRecDepth 100000 in
theorem r7_LevelWalks.calls (k : Nat) (a0 : Int) (a1 : Int) (A2 : Option Addr) (c2 : Nat) (l2 : List (S72)) (A3 : Option Addr) (c3 : Nat) (l3 : List Int) (A4 : Option Addr) (c4 : Nat) (l4 : List Int) (r : Bool) (w : World) (hr2 : Kd.C k72 w A2 l2.length l2) (hc2 : l2.length ≤ c2) (hr3 : Kd.C (Kd.int .i64) w A3 l3.length l3) (hc3 : l3.length ≤ c3) (hr4 : Kd.C (Kd.int .i64) w A4 l4.length l4) (hc4 : l4.length ≤ c4) (h : r7_LevelWalks.f k a0 a1 l2 l3 l4 = some r) (hrT_ : Aside0 (r = true)) :
  Calls Try.prog 10 #[.int .i64 a0, .int .i64 a1, .slice A2 l2.length c2, .slice A3 l3.length c3, .slice A4 l4.length c4] w fun e w' => e = .returned (.bool r) ∧ Below w.heap.size w w' := by
 have hu27 := Try.underlying27
 have HR2 := Aside0.mk hr2
 have HC2 := Aside0.mk hc2
 clear hr2 hc2
 have HR3 := Aside0.mk hr3
 have HC3 := Aside0.mk hc3
 clear hr3 hc3
 have HR4 := Aside0.mk hr4
 have HC4 := Aside0.mk hc4
 clear hr4 hc4
 have HB := Aside0.mk (Below.refl w.heap.size w)
 have H : ((r7_shown.f k).bind fun t238 => (if t238 = true then (r7_LevelWalks.j0 k a0 a1 l2 l3 l4 t238 (decide ((l4.length : Int) > 60))) else (r7_LevelWalks.j0 k a0 a1 l2 l3 l4 t238 true))) = some r := h
 clear h
 replace H := Option.bind_eq_some_iff.mp H
 obtain ⟨t238, A60, H⟩ := H
 replace H : (if t238 = true then (r7_LevelWalks.j0 k a0 a1 l2 l3 l4 t238 (decide ((l4.length : Int) > 60))) else (r7_LevelWalks.j0 k a0 a1 l2 l3 l4 t238 true)) = some r := H
 have A6 := Aside0.mk A60
 clear A60
 have HC7 := Aside0.mk H
 clear H
 go_enter Try.func10, Try.ntmps10
 go_upto_region 2 with (first | ((with_reducible refine gate_callee (f := 22) rfl ?_); refine goesL_ (some 34) rfl rfl Try.func22 (by kernel_rfl) rfl #[] rfl (by (try simp only [List.map_toArray, List.map_cons, List.map_nil]); first | done | rfl | (simp only [List.length_drop, List.length_take]; rfl)) ?_; (with_reducible refine (r7_shown.calls k  t238 _ A6.out).mono ?_); rintro e w8 ⟨rfl, hb⟩; refine ⟨_, rfl, ?_⟩; have n0_ := Aside0.mk (below_step (by repeat (first | (with_reducible first | exact HB.out | apply below_alloc | apply pw_below_drewN | apply below_drew1) | exact HB.out)) hb); clear HB; have HB := n0_; clear n0_; (try clear hb); (try clear hk)))
 (try simp only [Act.put, List.setIfInBounds_toArray, List.set_cons_zero, List.set_cons_succ])
 go_cut [41] (fun v41 wc => ∃ (kq : Nat) (x41_6 : Bool), v41 = .bool x41_6 ∧ Aside0 (r7_LevelWalks.j0 kq a0 a1 l2 l3 l4 t238 x41_6 = some r) ∧ Aside0 (kq ≤ k) ∧ Aside0 (Below w.heap.size w wc))
 case first =>
  have H := HC7.out
  clear HC7
  by_cases c9 : t238 = true
  ·subst c9
   (have H1 : (r7_LevelWalks.j0 k a0 a1 l2 l3 l4 true (decide ((l4.length : Int) > 60))) = some r := by rw [if_pos rfl] at H; exact H);(clear H);(have H := H1);(clear H1);(have H' := Aside0.mk H);(clear H)
   go_wp2
   go_meet
   case rel => exact ⟨_, (decide ((l4.length : Int) > 60)), (by first | rfl | (simp; done) | (simp [*]; done)), H', ⟨by first | omega | exact Nat.le_refl _⟩, ⟨by repeat (first | (with_reducible first | exact HB.out | apply below_alloc | apply pw_below_drewN | apply below_drew1) | exact HB.out)⟩⟩
  ·replace c9 := Bool.eq_false_iff.mpr c9
   (subst c9);(have H1 : (r7_LevelWalks.j0 k a0 a1 l2 l3 l4 false true) = some r := by rw [if_neg (show ¬ (false = true) by decide)] at H; exact H);(clear H);(have H := H1);(clear H1);(have H' := Aside0.mk H);(clear H)
   go_wp2
   go_meet
   case rel => exact ⟨_, (true), (by first | rfl | (simp; done) | (simp [*]; done)), H', ⟨by first | omega | exact Nat.le_refl _⟩, ⟨by repeat (first | (with_reducible first | exact HB.out | apply below_alloc | apply pw_below_drewN | apply below_drew1) | exact HB.out)⟩⟩
 case rest =>
  clear HC7
  try clear c1
  try clear c2
  try clear p2
  try clear c3
  try clear c4
  try clear c9
  obtain ⟨kq, x41_6, rfl, HA, HJ6, HB⟩ := hcut
  cases kq with
  | zero => exact absurd HA.out (by simp [r7_LevelWalks.j0])
  | succ kj6 =>
   (have H := HA.out);(clear HA);(simp only [r7_LevelWalks.j0] at H)
   by_cases c10 : x41_6 = true
   ·(subst c10);(have H1 : (some t238) = some r := by rw [if_pos rfl] at H; exact H);(clear H);(have H := H1);(clear H1);(obtain rfl := Option.some.inj H)
    go_wp2
    go_ret
    exact ⟨by first | rfl | (simp [errW_none, errW_some] <;> rfl) | (simp [*, errW_none, errW_some] <;> rfl), by repeat (first | (with_reducible first | exact HB.out | apply below_alloc | apply pw_below_drewN | apply below_drew1) | exact HB.out)⟩
   ·(replace c10 := Bool.eq_false_iff.mpr c10);(subst c10);(have H1 : ((r7_made.f kj6 a0 a1 l2).bind fun bt239 => ((r7_routed.f kj6 bt239.1 bt239.2.1 bt239.2.2.1 bt239.2.2.2 l3).bind fun t246 => ((residual_Room.f kj6 bt239.1 bt239.2.1 bt239.2.2.1 bt239.2.2.2 t246).bind fun bt249 => ((level_Deep.f kj6 bt239.1 bt239.2.1 bt239.2.2.1 bt239.2.2.2 t246 1).bind fun bt253 => ((level_Levels.f kj6 bt239.1 bt239.2.1 bt239.2.2.1 bt239.2.2.2 t246 1).bind fun bt255 => (if bt253.2 = 0 then (if bt255.2 = 0 then (if 0 ≤ bt239.2.2.1 then (if bt239.2.2.1 < (bt255.1.length : Int) then (r7_LevelWalks.j1 kj6 l4 t246 bt249.1 bt253.1 (bt253.1 != (rd bt255.1 bt239.2.2.1)) bt239.1 bt239.2.1 bt239.2.2.1 bt239.2.2.2) else (none)) else (none)) else (r7_LevelWalks.j1 kj6 l4 t246 bt249.1 bt253.1 true bt239.1 bt239.2.1 bt239.2.2.1 bt239.2.2.2)) else (r7_LevelWalks.j1 kj6 l4 t246 bt249.1 bt253.1 true bt239.1 bt239.2.1 bt239.2.2.1 bt239.2.2.2))))))) = some r := by rw [if_neg (show ¬ (false = true) by decide)] at H; exact H);(clear H);(have H := H1);(clear H1);(replace H := Option.bind_eq_some_iff.mp H);(obtain ⟨⟨t239, t240, t241, t242⟩, A110, H⟩ := H);(replace H : ((r7_routed.f kj6 t239 t240 t241 t242 l3).bind fun t246 => ((residual_Room.f kj6 t239 t240 t241 t242 t246).bind fun bt249 => ((level_Deep.f kj6 t239 t240 t241 t242 t246 1).bind fun bt253 => ((level_Levels.f kj6 t239 t240 t241 t242 t246 1).bind fun bt255 => (if bt253.2 = 0 then (if bt255.2 = 0 then (if 0 ≤ t241 then (if t241 < (bt255.1.length : Int) then (r7_LevelWalks.j1 kj6 l4 t246 bt249.1 bt253.1 (bt253.1 != (rd bt255.1 t241)) t239 t240 t241 t242) else (none)) else (none)) else (r7_LevelWalks.j1 kj6 l4 t246 bt249.1 bt253.1 true t239 t240 t241 t242)) else (r7_LevelWalks.j1 kj6 l4 t246 bt249.1 bt253.1 true t239 t240 t241 t242)))))) = some r := H);(have A11 := Aside0.mk A110);(clear A110);(replace H := Option.bind_eq_some_iff.mp H);(obtain ⟨t246, A120, H⟩ := H);(replace H : ((residual_Room.f kj6 t239 t240 t241 t242 t246).bind fun bt249 => ((level_Deep.f kj6 t239 t240 t241 t242 t246 1).bind fun bt253 => ((level_Levels.f kj6 t239 t240 t241 t242 t246 1).bind fun bt255 => (if bt253.2 = 0 then (if bt255.2 = 0 then (if 0 ≤ t241 then (if t241 < (bt255.1.length : Int) then (r7_LevelWalks.j1 kj6 l4 t246 bt249.1 bt253.1 (bt253.1 != (rd bt255.1 t241)) t239 t240 t241 t242) else (none)) else (none)) else (r7_LevelWalks.j1 kj6 l4 t246 bt249.1 bt253.1 true t239 t240 t241 t242)) else (r7_LevelWalks.j1 kj6 l4 t246 bt249.1 bt253.1 true t239 t240 t241 t242))))) = some r := H);(have A12 := Aside0.mk A120);(clear A120);(replace H := Option.bind_eq_some_iff.mp H);(obtain ⟨⟨t249, t252⟩, A130, H⟩ := H);(replace H : ((level_Deep.f kj6 t239 t240 t241 t242 t246 1).bind fun bt253 => ((level_Levels.f kj6 t239 t240 t241 t242 t246 1).bind fun bt255 => (if bt253.2 = 0 then (if bt255.2 = 0 then (if 0 ≤ t241 then (if t241 < (bt255.1.length : Int) then (r7_LevelWalks.j1 kj6 l4 t246 t249 bt253.1 (bt253.1 != (rd bt255.1 t241)) t239 t240 t241 t242) else (none)) else (none)) else (r7_LevelWalks.j1 kj6 l4 t246 t249 bt253.1 true t239 t240 t241 t242)) else (r7_LevelWalks.j1 kj6 l4 t246 t249 bt253.1 true t239 t240 t241 t242)))) = some r := H);(have A13 := Aside0.mk A130);(clear A130);(replace H := Option.bind_eq_some_iff.mp H);(obtain ⟨⟨t253, t254⟩, A140, H⟩ := H);(replace H : ((level_Levels.f kj6 t239 t240 t241 t242 t246 1).bind fun bt255 => (if t254 = 0 then (if bt255.2 = 0 then (if 0 ≤ t241 then (if t241 < (bt255.1.length : Int) then (r7_LevelWalks.j1 kj6 l4 t246 t249 t253 (t253 != (rd bt255.1 t241)) t239 t240 t241 t242) else (none)) else (none)) else (r7_LevelWalks.j1 kj6 l4 t246 t249 t253 true t239 t240 t241 t242)) else (r7_LevelWalks.j1 kj6 l4 t246 t249 t253 true t239 t240 t241 t242))) = some r := H);(have A14 := Aside0.mk A140);(clear A140);(replace H := Option.bind_eq_some_iff.mp H);(obtain ⟨⟨t255, t258⟩, A150, H⟩ := H);(replace H : (if t254 = 0 then (if t258 = 0 then (if 0 ≤ t241 then (if t241 < (t255.length : Int) then (r7_LevelWalks.j1 kj6 l4 t246 t249 t253 (t253 != (rd t255 t241)) t239 t240 t241 t242) else (none)) else (none)) else (r7_LevelWalks.j1 kj6 l4 t246 t249 t253 true t239 t240 t241 t242)) else (r7_LevelWalks.j1 kj6 l4 t246 t249 t253 true t239 t240 t241 t242)) = some r := H);(have A15 := Aside0.mk A150);(clear A150);(have HC16 := Aside0.mk H);(clear H)
    go_upto_region 9 with (first | ((with_reducible refine gate_callee (f := 23) rfl ?_); refine goesL_ (some 46) rfl rfl Try.func23 (by kernel_rfl) rfl #[.int .i64 a0, .int .i64 a1, .slice A2 l2.length c2] rfl (by (try simp only [List.map_toArray, List.map_cons, List.map_nil]); first | done | rfl | (simp only [List.length_drop, List.length_take]; rfl)) ?_; (with_reducible refine (r7_made.calls kj6 a0 a1 _ _ l2 t239 t240 t241 t242 _ ?side1 ?side2 A11.out).mono ?_); (case side1 => repeat (first | exact (Kd.C_below HR2.out HB.out) | (with_reducible refine Kd.C_alloc ?_ _) | (with_reducible refine Kd.C_drewN ?_ _) | (with_reducible refine Kd.C_drew ?_))); (case side2 => exact HC2.out); rintro e w17 ⟨v243, rfl, ho0, hb⟩; refine ⟨_, rfl, ?_⟩; have n0_ := Aside0.mk (Kd.R_lower ho0 (below_size (by repeat (first | (with_reducible first | exact HB.out | apply below_alloc | apply pw_below_drewN | apply below_drew1) | exact HB.out)))); have n1_ := Aside0.mk (below_step (by repeat (first | (with_reducible first | exact HB.out | apply below_alloc | apply pw_below_drewN | apply below_drew1) | exact HB.out)) hb); clear HB; have HO244 := n0_; have HB := n1_; clear n0_ n1_; (try clear hb); (try clear hk); (try clear ho0)) | ((with_reducible refine gate_dst (N := 12) rfl ?_); (try (refine gate_guard (by rfl) ?_; dsimp only)); refine box_event ?hg (N := 12) ?hd (cs := #[.int .i64 0, .int .i64 0, .int .i64 0, .slice none 0 0]) (t := 27) ?hr ?_; (case hd => rfl); (case hg => rfl); (case hr => first | (go_simp; done) | (go_simp; rfl)); intro gb245 hg w18 hbox hb; have n0_ := Aside0.mk (Kd.R_below (by (with_reducible repeat first | apply Kd.R_alloc | apply Kd.R_drewN | apply Kd.R_drew); exact HO244.out) hb); have n1_ := Aside0.mk (below_step (by repeat (first | (with_reducible first | exact HB.out | apply below_alloc | apply pw_below_drewN | apply below_drew1) | exact HB.out)) hb); have n2_ := Aside0.mk (hbox); have n3_ := Aside0.mk ((by rw [hg]; exact (below_size (by repeat (first | (with_reducible first | exact HB.out | apply below_alloc | apply pw_below_drewN | apply below_drew1) | exact HB.out))) : w.heap.size ≤ gb245)); have n4_ := Aside0.mk ((by rw [hg]; exact (below_size (by repeat (first | (with_reducible first | exact HB.out | apply below_alloc | apply pw_below_drewN | apply below_drew1) | exact HB.out))) : w.heap.size ≤ gb245)); clear HO244; clear HB; have HO244 := n0_; have HB := n1_; have BK245 := n2_; have GW245 := n3_; have GE245 := n4_; clear n0_ n1_ n2_ n3_ n4_; clear hb hbox hg; have hcz19_0 : w18.cell? ⟨gb245, 0, none⟩ = some (.int .i64 0) := (blk_cell BK245.out 0).trans rfl; have hcz19_1 : w18.cell? ⟨gb245, 1, none⟩ = some (.int .i64 0) := (blk_cell BK245.out 1).trans rfl; have hcz19_2 : w18.cell? ⟨gb245, 2, none⟩ = some (.int .i64 0) := (blk_cell BK245.out 2).trans rfl; have hcz19_3 : w18.cell? ⟨gb245, 3, none⟩ = some (.slice none 0 0) := (blk_cell BK245.out 3).trans rfl; have hfz19_0 := blk_frozen BK245.out 0; have hfz19_1 := blk_frozen BK245.out 1; have hfz19_2 := blk_frozen BK245.out 2; have hfz19_3 := blk_frozen BK245.out 3; obtain ⟨Ao20, co20, eo20⟩ := Kd.R_slice HO244.out; subst eo20) | ((with_reducible refine gate_callee (f := 24) rfl ?_); refine goesL_ (some 49) rfl rfl Try.func24 (by kernel_rfl) rfl #[.agg #[.int .i64 t239, .int .i64 t240, .int .i64 t241, .slice Ao20 t242.length co20], .slice A3 l3.length c3] rfl (by (try simp only [List.map_toArray, List.map_cons, List.map_nil]); first | done | rfl | (simp only [List.length_drop, List.length_take]; rfl)) ?_; (with_reducible refine (r7_routed.calls kj6 t239 t240 t241 _ _ t242 _ _ l3 t246 _ ?side1 ?side2 ?side3 ?side4 A12.out).mono ?_); (case side1 => refine (Kd.R_reads' (e := 49) (base := w.heap.size) (ok := fun k_ => True) (n := t242.length) (c := co20) ?_).2.2; exact (by (with_reducible repeat first | apply Kd.R_alloc | apply Kd.R_drewN | apply Kd.R_drew); exact (Kd.R_mono (Kd.R_far (p := ⟨gb245, 3, none⟩) (Kd.R_far (p := ⟨gb245, 2, none⟩) (Kd.R_far (p := ⟨gb245, 1, none⟩) (Kd.R_far (p := ⟨gb245, 0, none⟩) (Kd.R_types HO244.out BK245.out (by decide)) (fun _ hk => hk.2) (.int .i64 t239)) (fun _ hk => hk.2) (.int .i64 t240)) (fun _ hk => hk.2) (.int .i64 t241)) (fun _ hk => hk.2) (.slice Ao20 t242.length co20)) (fun _ h_ => h_.1)))); (case side2 => exact (Kd.R_reads' HO244.out).2.1); (case side3 => exact Kd.C_below HR3.out (by repeat (first | (with_reducible first | exact HB.out | apply below_alloc | apply pw_below_drewN | apply below_drew1 | refine below_set ?_ GE245.out) | exact HB.out))); (case side4 => exact HC3.out); rintro e w21 ⟨v247, rfl, ho0, hb⟩; refine ⟨_, rfl, ?_⟩; have n0_ := Aside0.mk (Kd.R_below (by (with_reducible repeat first | apply Kd.R_alloc | apply Kd.R_drewN | apply Kd.R_drew); exact (Kd.R_mono (Kd.R_far (p := ⟨gb245, 3, none⟩) (Kd.R_far (p := ⟨gb245, 2, none⟩) (Kd.R_far (p := ⟨gb245, 1, none⟩) (Kd.R_far (p := ⟨gb245, 0, none⟩) (Kd.R_types HO244.out BK245.out (by decide)) (fun _ hk => hk.2) (.int .i64 t239)) (fun _ hk => hk.2) (.int .i64 t240)) (fun _ hk => hk.2) (.int .i64 t241)) (fun _ hk => hk.2) (.slice Ao20 t242.length co20)) (fun _ h_ => h_.1))) hb); have n1_ := Aside0.mk (Kd.R_lower ho0 (below_size (by repeat (first | (with_reducible first | exact HB.out | apply below_alloc | apply pw_below_drewN | apply below_drew1 | refine below_set ?_ GE245.out) | exact HB.out)))); have n2_ := Aside0.mk (blk_below (g := gb245) (o := .cells #[.int .i64 t239, .int .i64 t240, .int .i64 t241, .slice Ao20 t242.length co20] 27 (0, 0)) (by (with_reducible repeat first | refine blk_drewN ?_ _ | refine blk_drew ?_ | refine blk_alloc ?_ _); refine blk_put (cs := #[.int .i64 t239, .int .i64 t240, .int .i64 t241, .slice none 0 0]) ?_ 3 _ rfl; (with_reducible repeat first | refine blk_drewN ?_ _ | refine blk_drew ?_ | refine blk_alloc ?_ _); refine blk_put (cs := #[.int .i64 t239, .int .i64 t240, .int .i64 0, .slice none 0 0]) ?_ 2 _ rfl; (with_reducible repeat first | refine blk_drewN ?_ _ | refine blk_drew ?_ | refine blk_alloc ?_ _); refine blk_put (cs := #[.int .i64 t239, .int .i64 0, .int .i64 0, .slice none 0 0]) ?_ 1 _ rfl; (with_reducible repeat first | refine blk_drewN ?_ _ | refine blk_drew ?_ | refine blk_alloc ?_ _); refine blk_put (cs := #[.int .i64 0, .int .i64 0, .int .i64 0, .slice none 0 0]) ?_ 0 _ rfl; (with_reducible repeat first | refine blk_drewN ?_ _ | refine blk_drew ?_ | refine blk_alloc ?_ _); exact BK245.out) hb); have n3_ := Aside0.mk (below_step (by repeat (first | (with_reducible first | exact HB.out | apply below_alloc | apply pw_below_drewN | apply below_drew1 | refine below_set ?_ GE245.out) | exact HB.out)) hb); clear HO244; clear BK245; clear HB; have HO244 := n0_; have HO248 := n1_; have BK245 := n2_; have HB := n3_; clear n0_ n1_ n2_ n3_; (try clear hb); (try clear hk); (try clear ho0); have hcz22_0 : w21.cell? ⟨gb245, 0, none⟩ = some (.int .i64 t239) := (blk_cell BK245.out 0).trans rfl; have hcz22_1 : w21.cell? ⟨gb245, 1, none⟩ = some (.int .i64 t240) := (blk_cell BK245.out 1).trans rfl; have hcz22_2 : w21.cell? ⟨gb245, 2, none⟩ = some (.int .i64 t241) := (blk_cell BK245.out 2).trans rfl; have hcz22_3 : w21.cell? ⟨gb245, 3, none⟩ = some (.slice Ao20 t242.length co20) := (blk_cell BK245.out 3).trans rfl; have hfz22_0 := blk_frozen BK245.out 0; have hfz22_1 := blk_frozen BK245.out 1; have hfz22_2 := blk_frozen BK245.out 2; have hfz22_3 := blk_frozen BK245.out 3; obtain ⟨Ao23, co23, eo23⟩ := Kd.R_slice HO248.out; subst eo23) | ((with_reducible refine gate_callee (f := 18) rfl ?_); refine goesL_ (some 53) rfl rfl Try.func18 (by kernel_rfl) rfl #[.agg #[.int .i64 t239, .int .i64 t240, .int .i64 t241, .slice Ao20 t242.length co20], .slice Ao23 t246.length co23] rfl (by (try simp only [List.map_toArray, List.map_cons, List.map_nil]); first | done | rfl | (simp only [List.length_drop, List.length_take]; rfl)) ?_; (with_reducible refine (residual_Room.calls kj6 t239 t240 t241 _ _ t242 _ _ t246 t249 t252 _ ?side1 ?side2 ?side3 ?side4 A13.out).mono ?_); (case side1 => repeat (first | exact (Kd.R_reads' HO244.out).2.2 | (with_reducible refine Kd.C_alloc ?_ _) | (with_reducible refine Kd.C_drewN ?_ _) | (with_reducible refine Kd.C_drew ?_))); (case side2 => exact (Kd.R_reads' HO244.out).2.1); (case side3 => repeat (first | exact (Kd.R_reads' HO248.out).2.2 | (with_reducible refine Kd.C_alloc ?_ _) | (with_reducible refine Kd.C_drewN ?_ _) | (with_reducible refine Kd.C_drew ?_))); (case side4 => exact (Kd.R_reads' HO248.out).2.1); rintro e w24 ⟨v250, rfl, ho0, hb⟩; refine ⟨_, rfl, ?_⟩; have n0_ := Aside0.mk (Kd.R_below (by (with_reducible repeat first | apply Kd.R_alloc | apply Kd.R_drewN | apply Kd.R_drew); exact HO244.out) hb); have n1_ := Aside0.mk (Kd.R_elder' (by (with_reducible repeat first | apply Kd.R_alloc | apply Kd.R_drewN | apply Kd.R_drew); exact HO248.out) (Kd.R_base ho0) hb); have n2_ := Aside0.mk (Kd.R_lower (Kd.R_new' ho0 (Kd.R_lt (by (with_reducible repeat first | apply Kd.R_alloc | apply Kd.R_drewN | apply Kd.R_drew); exact HO248.out))) (below_size (by repeat (first | (with_reducible first | exact HB.out | apply below_alloc | apply pw_below_drewN | apply below_drew1 | refine below_set ?_ GE245.out) | exact HB.out)))); have n3_ := Aside0.mk (blk_below (g := gb245) (o := .cells #[.int .i64 t239, .int .i64 t240, .int .i64 t241, .slice Ao20 t242.length co20] 27 (0, 0)) (by (with_reducible repeat first | refine blk_drewN ?_ _ | refine blk_drew ?_ | refine blk_alloc ?_ _); exact BK245.out) hb); have n4_ := Aside0.mk (below_step (by repeat (first | (with_reducible first | exact HB.out | apply below_alloc | apply pw_below_drewN | apply below_drew1 | refine below_set ?_ GE245.out) | exact HB.out)) hb); clear HO244; clear HO248; clear BK245; clear HB; have HO244 := n0_; have HO248 := n1_; have HO251 := n2_; have BK245 := n3_; have HB := n4_; clear n0_ n1_ n2_ n3_ n4_; (try clear hb); (try clear hk); (try clear ho0); have hcz25_0 : w24.cell? ⟨gb245, 0, none⟩ = some (.int .i64 t239) := (blk_cell BK245.out 0).trans rfl; have hcz25_1 : w24.cell? ⟨gb245, 1, none⟩ = some (.int .i64 t240) := (blk_cell BK245.out 1).trans rfl; have hcz25_2 : w24.cell? ⟨gb245, 2, none⟩ = some (.int .i64 t241) := (blk_cell BK245.out 2).trans rfl; have hcz25_3 : w24.cell? ⟨gb245, 3, none⟩ = some (.slice Ao20 t242.length co20) := (blk_cell BK245.out 3).trans rfl; have hfz25_0 := blk_frozen BK245.out 0; have hfz25_1 := blk_frozen BK245.out 1; have hfz25_2 := blk_frozen BK245.out 2; have hfz25_3 := blk_frozen BK245.out 3) | ((with_reducible refine gate_callee (f := 33) rfl ?_); refine goesL_ (some 59) rfl rfl Try.func33 (by kernel_rfl) rfl #[.agg #[.int .i64 t239, .int .i64 t240, .int .i64 t241, .slice Ao20 t242.length co20], .slice Ao23 t246.length co23, .int .i64 1] rfl (by (try simp only [List.map_toArray, List.map_cons, List.map_nil]); first | done | rfl | (simp only [List.length_drop, List.length_take]; rfl)) ?_; (with_reducible refine (level_Deep.calls kj6 t239 t240 t241 _ _ t242 _ _ t246 1 t253 t254 _ ?side1 ?side2 ?side3 ?side4 A14.out).mono ?_); (case side1 => repeat (first | exact (Kd.R_reads' HO244.out).2.2 | (with_reducible refine Kd.C_alloc ?_ _) | (with_reducible refine Kd.C_drewN ?_ _) | (with_reducible refine Kd.C_drew ?_))); (case side2 => exact (Kd.R_reads' HO244.out).2.1); (case side3 => repeat (first | exact (Kd.R_reads' HO248.out).2.2 | (with_reducible refine Kd.C_alloc ?_ _) | (with_reducible refine Kd.C_drewN ?_ _) | (with_reducible refine Kd.C_drew ?_))); (case side4 => exact (Kd.R_reads' HO248.out).2.1); rintro e w26 ⟨rfl, hb⟩; refine ⟨_, rfl, ?_⟩; have n0_ := Aside0.mk (Kd.R_below (by (with_reducible repeat first | apply Kd.R_alloc | apply Kd.R_drewN | apply Kd.R_drew); exact HO244.out) hb); have n1_ := Aside0.mk (Kd.R_below (by (with_reducible repeat first | apply Kd.R_alloc | apply Kd.R_drewN | apply Kd.R_drew); exact HO248.out) hb); have n2_ := Aside0.mk (Kd.R_below (by (with_reducible repeat first | apply Kd.R_alloc | apply Kd.R_drewN | apply Kd.R_drew); exact HO251.out) hb); have n3_ := Aside0.mk (blk_below (g := gb245) (o := .cells #[.int .i64 t239, .int .i64 t240, .int .i64 t241, .slice Ao20 t242.length co20] 27 (0, 0)) (by (with_reducible repeat first | refine blk_drewN ?_ _ | refine blk_drew ?_ | refine blk_alloc ?_ _); exact BK245.out) hb); have n4_ := Aside0.mk (below_step (by repeat (first | (with_reducible first | exact HB.out | apply below_alloc | apply pw_below_drewN | apply below_drew1 | refine below_set ?_ GE245.out) | exact HB.out)) hb); clear HO244; clear HO248; clear HO251; clear BK245; clear HB; have HO244 := n0_; have HO248 := n1_; have HO251 := n2_; have BK245 := n3_; have HB := n4_; clear n0_ n1_ n2_ n3_ n4_; (try clear hb); (try clear hk); have hcz27_0 : w26.cell? ⟨gb245, 0, none⟩ = some (.int .i64 t239) := (blk_cell BK245.out 0).trans rfl; have hcz27_1 : w26.cell? ⟨gb245, 1, none⟩ = some (.int .i64 t240) := (blk_cell BK245.out 1).trans rfl; have hcz27_2 : w26.cell? ⟨gb245, 2, none⟩ = some (.int .i64 t241) := (blk_cell BK245.out 2).trans rfl; have hcz27_3 : w26.cell? ⟨gb245, 3, none⟩ = some (.slice Ao20 t242.length co20) := (blk_cell BK245.out 3).trans rfl; have hfz27_0 := blk_frozen BK245.out 0; have hfz27_1 := blk_frozen BK245.out 1; have hfz27_2 := blk_frozen BK245.out 2; have hfz27_3 := blk_frozen BK245.out 3) | ((with_reducible refine gate_callee (f := 26) rfl ?_); refine goesL_ (some 65) rfl rfl Try.func26 (by kernel_rfl) rfl #[.agg #[.int .i64 t239, .int .i64 t240, .int .i64 t241, .slice Ao20 t242.length co20], .slice Ao23 t246.length co23, .int .i64 1] rfl (by (try simp only [List.map_toArray, List.map_cons, List.map_nil]); first | done | rfl | (simp only [List.length_drop, List.length_take]; rfl)) ?_; (with_reducible refine (level_Levels.calls kj6 t239 t240 t241 _ _ t242 _ _ t246 1 t255 t258 _ ?side1 ?side2 ?side3 ?side4 A15.out).mono ?_); (case side1 => repeat (first | exact (Kd.R_reads' HO244.out).2.2 | (with_reducible refine Kd.C_alloc ?_ _) | (with_reducible refine Kd.C_drewN ?_ _) | (with_reducible refine Kd.C_drew ?_))); (case side2 => exact (Kd.R_reads' HO244.out).2.1); (case side3 => repeat (first | exact (Kd.R_reads' HO248.out).2.2 | (with_reducible refine Kd.C_alloc ?_ _) | (with_reducible refine Kd.C_drewN ?_ _) | (with_reducible refine Kd.C_drew ?_))); (case side4 => exact (Kd.R_reads' HO248.out).2.1); rintro e w28 ⟨v256, rfl, ho0, hb⟩; refine ⟨_, rfl, ?_⟩; have n0_ := Aside0.mk (Kd.R_below (by (with_reducible repeat first | apply Kd.R_alloc | apply Kd.R_drewN | apply Kd.R_drew); exact HO244.out) hb); have n1_ := Aside0.mk (Kd.R_below (by (with_reducible repeat first | apply Kd.R_alloc | apply Kd.R_drewN | apply Kd.R_drew); exact HO248.out) hb); have n2_ := Aside0.mk (Kd.R_below (by (with_reducible repeat first | apply Kd.R_alloc | apply Kd.R_drewN | apply Kd.R_drew); exact HO251.out) hb); have n3_ := Aside0.mk (Kd.R_lower ho0 (below_size (by repeat (first | (with_reducible first | exact HB.out | apply below_alloc | apply pw_below_drewN | apply below_drew1 | refine below_set ?_ GE245.out) | exact HB.out)))); have n4_ := Aside0.mk (blk_below (g := gb245) (o := .cells #[.int .i64 t239, .int .i64 t240, .int .i64 t241, .slice Ao20 t242.length co20] 27 (0, 0)) (by (with_reducible repeat first | refine blk_drewN ?_ _ | refine blk_drew ?_ | refine blk_alloc ?_ _); exact BK245.out) hb); have n5_ := Aside0.mk (below_step (by repeat (first | (with_reducible first | exact HB.out | apply below_alloc | apply pw_below_drewN | apply below_drew1 | refine below_set ?_ GE245.out) | exact HB.out)) hb); clear HO244; clear HO248; clear HO251; clear BK245; clear HB; have HO244 := n0_; have HO248 := n1_; have HO251 := n2_; have HO257 := n3_; have BK245 := n4_; have HB := n5_; clear n0_ n1_ n2_ n3_ n4_ n5_; (try clear hb); (try clear hk); (try clear ho0)))
    (try simp only [Act.put, List.setIfInBounds_toArray, List.set_cons_zero, List.set_cons_succ])
    go_cut [82] (fun v82 wc => ∃ (kq : Nat) (x82_15 : Bool), v82 = .bool x82_15 ∧ Aside0 (r7_LevelWalks.j1 kq l4 t246 t249 t253 x82_15 t239 t240 t241 t242 = some r) ∧ Aside0 (kq ≤ kj6) ∧ Aside0 (Kd.R (Kd.int .i64) 2 wc w.heap.size (fun k_ => some k_ ≠ (v250 : Value).ownBlock) (.slice Ao23 t246.length co23) t246) ∧ Aside0 (Kd.R (Kd.int .i64) 2 wc w.heap.size (fun k_ => some k_ ≠ ((.slice Ao23 t246.length co23) : Value).ownBlock) v250 t249) ∧ Aside0 (Kd.R k49 49 wc w.heap.size (fun _ => True) (.slice Ao20 t242.length co20) t242) ∧ Aside0 (wc.heap[gb245]? = some (.cells #[.int .i64 t239, .int .i64 t240, .int .i64 t241, (.slice Ao20 t242.length co20)] 27 (0, 0))) ∧ Aside0 (Below w.heap.size w wc))
    case first =>
     (have H := HC16.out);(clear HC16)
     by_cases c29 : t254 = 0
     ·(rw [if_pos c29] at H);(have c29b0 : (t254 == 0) = true := beq_iff_eq.mpr c29);(have c29b1 : (t254 != 0) = false := bne_eq_false_iff_eq.mpr c29);(clear c29);((first | rw [c29b0] | (simp only [i64_w, i32_w]; rw [c29b0]) | skip))
      by_cases c30 : t258 = 0
      ·(rw [if_pos c30] at H);(have c30b0 : (t258 == 0) = true := beq_iff_eq.mpr c30);(have c30b1 : (t258 != 0) = false := bne_eq_false_iff_eq.mpr c30);(clear c30)
       by_cases c31 : 0 ≤ t241
       ·(rw [if_pos c31] at H);(have c31b0 : decide (0 ≤ t241) = true := decide_eq_true c31);(clear c31)
        by_cases c32 : t241 < (t255.length : Int)
        ·(rw [if_pos c32] at H);(have c32b0 : decide (t241 < (t255.length : Int)) = true := decide_eq_true c32);(clear c32);(have H' := Aside0.mk H);(clear H);(have hcz33_0 : w28.cell? ⟨gb245, 0, none⟩ = some (.int .i64 t239) := (blk_cell BK245.out 0).trans rfl);(have hcz33_1 : w28.cell? ⟨gb245, 1, none⟩ = some (.int .i64 t240) := (blk_cell BK245.out 1).trans rfl);(have hcz33_2 : w28.cell? ⟨gb245, 2, none⟩ = some (.int .i64 t241) := (blk_cell BK245.out 2).trans rfl);(have hcz33_3 : w28.cell? ⟨gb245, 3, none⟩ = some (.slice Ao20 t242.length co20) := (blk_cell BK245.out 3).trans rfl);(have hfz33_0 := blk_frozen BK245.out 0);(have hfz33_1 := blk_frozen BK245.out 1);(have hfz33_2 := blk_frozen BK245.out 2);(have hfz33_3 := blk_frozen BK245.out 3);(obtain ⟨Ao34, co34, eo34⟩ := Kd.R_slice HO257.out);(subst eo34);(have p259 : 0 ≤ (t241 : Int) := of_decide_eq_true (by first | (with_reducible assumption) | assumption));(have q259 : t241 < (t255.length : Int) := of_decide_eq_true (by first | (with_reducible assumption) | assumption));(obtain ⟨ad259, e259, hx259_0⟩ := Kd.at_int (Kd.R_reads' HO257.out).2.2 t241 p259 q259);(cases e259);(replace p259 := eq_true p259);(replace q259 := eq_true q259)
         go_wp2
         go_meet
         case rel => exact ⟨_, ((t253 != (rd t255 t241))), (by first | rfl | (simp; done) | (simp [*]; done)), H', ⟨by have := HJ6.out; first | omega | exact Nat.le_refl _⟩, ⟨by (with_reducible repeat first | apply Kd.R_alloc | apply Kd.R_drewN | apply Kd.R_drew); exact Kd.R_mono HO248.out (fun _ hk => hk.2)⟩, ⟨by (with_reducible repeat first | apply Kd.R_alloc | apply Kd.R_drewN | apply Kd.R_drew); exact Kd.R_mono HO251.out (fun _ hk => hk.2)⟩, ⟨by (with_reducible repeat first | apply Kd.R_alloc | apply Kd.R_drewN | apply Kd.R_drew); exact HO244.out⟩, ⟨by (with_reducible repeat first | refine blk_drewN ?_ _ | refine blk_drew ?_ | refine blk_alloc ?_ _); exact BK245.out⟩, ⟨by repeat (first | (with_reducible first | exact HB.out | apply below_alloc | apply pw_below_drewN | apply below_drew1 | refine below_set ?_ GE245.out) | exact HB.out)⟩⟩
        ·(rw [if_neg c32] at H);(exact absurd H (by simp))
       ·(rw [if_neg c31] at H);(exact absurd H (by simp))
      ·(rw [if_neg c30] at H);(have c30b0 : (t258 == 0) = false := beq_eq_false_iff_ne.mpr c30);(have c30b1 : (t258 != 0) = true := bne_iff_ne.mpr c30);(have H' := Aside0.mk H);(clear H)
       go_wp2
       go_meet
       case rel => exact ⟨_, (true), (by first | rfl | (simp; done) | (simp [*]; done)), H', ⟨by have := HJ6.out; first | omega | exact Nat.le_refl _⟩, ⟨by (with_reducible repeat first | apply Kd.R_alloc | apply Kd.R_drewN | apply Kd.R_drew); exact Kd.R_mono HO248.out (fun _ hk => hk.2)⟩, ⟨by (with_reducible repeat first | apply Kd.R_alloc | apply Kd.R_drewN | apply Kd.R_drew); exact Kd.R_mono HO251.out (fun _ hk => hk.2)⟩, ⟨by (with_reducible repeat first | apply Kd.R_alloc | apply Kd.R_drewN | apply Kd.R_drew); exact HO244.out⟩, ⟨by (with_reducible repeat first | refine blk_drewN ?_ _ | refine blk_drew ?_ | refine blk_alloc ?_ _); exact BK245.out⟩, ⟨by repeat (first | (with_reducible first | exact HB.out | apply below_alloc | apply pw_below_drewN | apply below_drew1 | refine below_set ?_ GE245.out) | exact HB.out)⟩⟩
     ·(rw [if_neg c29] at H);(have c29b0 : (t254 == 0) = false := beq_eq_false_iff_ne.mpr c29);(have c29b1 : (t254 != 0) = true := bne_iff_ne.mpr c29);((first | rw [c29b0] | (simp only [i64_w, i32_w]; rw [c29b0]) | skip));(have H' := Aside0.mk H);(clear H)
      go_wp2
      go_meet
      case rel => exact ⟨_, (true), (by first | rfl | (simp; done) | (simp [*]; done)), H', ⟨by have := HJ6.out; first | omega | exact Nat.le_refl _⟩, ⟨by (with_reducible repeat first | apply Kd.R_alloc | apply Kd.R_drewN | apply Kd.R_drew); exact Kd.R_mono HO248.out (fun _ hk => hk.2)⟩, ⟨by (with_reducible repeat first | apply Kd.R_alloc | apply Kd.R_drewN | apply Kd.R_drew); exact Kd.R_mono HO251.out (fun _ hk => hk.2)⟩, ⟨by (with_reducible repeat first | apply Kd.R_alloc | apply Kd.R_drewN | apply Kd.R_drew); exact HO244.out⟩, ⟨by (with_reducible repeat first | refine blk_drewN ?_ _ | refine blk_drew ?_ | refine blk_alloc ?_ _); exact BK245.out⟩, ⟨by repeat (first | (with_reducible first | exact HB.out | apply below_alloc | apply pw_below_drewN | apply below_drew1 | refine below_set ?_ GE245.out) | exact HB.out)⟩⟩
    case rest =>
     clear HC16
     try clear c1
     try clear c2
     try clear p2
     try clear q2
     try clear hx2
     try clear c3
     try clear c4
     try clear c9
     try clear c10
     try clear c18
     try clear c22
     try clear c23
     try clear c24
     try clear p25
     try clear q25
     try clear hx25
     try clear c26
     try clear c29
     try clear c29b0
     try clear c29b1
     try clear c30
     try clear c30b0
     try clear c30b1
     try clear c31
     try clear c31b0
     try clear c32
     try clear c32b0
     try clear c33
     try clear hcz19_0
     try clear hcz19_1
     try clear hcz19_2
     try clear hcz19_3
     try clear hcz22_0
     try clear hcz22_1
     try clear hcz22_2
     try clear hcz22_3
     try clear hcz25_0
     try clear hcz25_1
     try clear hcz25_2
     try clear hcz25_3
     try clear hcz27_0
     try clear hcz27_1
     try clear hcz27_2
     try clear hcz27_3
     try clear hcz33_0
     try clear hcz33_1
     try clear hcz33_2
     try clear hcz33_3
     try clear hfz19_0
     try clear hfz19_1
     try clear hfz19_2
     try clear hfz19_3
     try clear hfz22_0
     try clear hfz22_1
     try clear hfz22_2
     try clear hfz22_3
     try clear hfz25_0
     try clear hfz25_1
     try clear hfz25_2
     try clear hfz25_3
     try clear hfz27_0
     try clear hfz27_1
     try clear hfz27_2
     try clear hfz27_3
     try clear hfz33_0
     try clear hfz33_1
     try clear hfz33_2
     try clear hfz33_3
     try clear hx259_0
     try clear p2
     try clear p259
     try clear q259
     obtain ⟨kq, x82_15, rfl, HA, HJ15, HO_13, HO_14, HO_246003, BK245, HB⟩ := hcut
     cases kq with
     | zero => exact absurd HA.out (by simp [r7_LevelWalks.j1])
     | succ kj15 =>
      (have H := HA.out);(clear HA);(simp only [r7_LevelWalks.j1] at H)
      by_cases c35 : x82_15 = true
      ·(subst c35);(have H1 : (some false) = some r := by rw [if_pos rfl] at H; exact H);(clear H);(have H := H1);(clear H1);(exact absurd ((Option.some.inj H).trans hrT_.out) (by simp))
      ·(replace c35 := Bool.eq_false_iff.mpr c35);(subst c35);(have H1 : (r7_LevelWalks.l0 kj15 l4 t246 t249 t253 t240 0 0 t239 t240 t241 t242) = some r := by rw [if_neg (show ¬ (false = true) by decide)] at H; exact H);(clear H);(have H := H1);(clear H1);(have HC36 := Aside0.mk H);(clear H);(have hcz37_0 : wc.cell? ⟨gb245, 0, none⟩ = some (.int .i64 t239) := (blk_cell BK245.out 0).trans rfl);(have hcz37_1 : wc.cell? ⟨gb245, 1, none⟩ = some (.int .i64 t240) := (blk_cell BK245.out 1).trans rfl);(have hcz37_2 : wc.cell? ⟨gb245, 2, none⟩ = some (.int .i64 t241) := (blk_cell BK245.out 2).trans rfl);(have hcz37_3 : wc.cell? ⟨gb245, 3, none⟩ = some (.slice Ao20 t242.length co20) := (blk_cell BK245.out 3).trans rfl);(have hfz37_0 := blk_frozen BK245.out 0);(have hfz37_1 := blk_frozen BK245.out 1);(have hfz37_2 := blk_frozen BK245.out 2);(have hfz37_3 := blk_frozen BK245.out 3)
       go_upto_block 0 with (fail)
       go_cut [20, 21] (fun v20 v21 wc => ∃ (kq : Nat) (x20_35 : Int) (x21_35 : Int), v20 = .int .i64 x20_35 ∧ v21 = .int .i64 x21_35 ∧ Aside0 (r7_LevelWalks.j4 kq t246 t253 x20_35 x21_35 t239 t240 t241 t242 = some r) ∧ Aside0 (kq ≤ kj15) ∧ Aside0 (Kd.R (Kd.int .i64) 2 wc w.heap.size (fun _ => True) (.slice Ao23 t246.length co23) t246) ∧ Aside0 (Kd.R k49 49 wc w.heap.size (fun _ => True) (.slice Ao20 t242.length co20) t242) ∧ Aside0 (wc.heap[gb245]? = some (.cells #[.int .i64 t239, .int .i64 t240, .int .i64 t241, (.slice Ao20 t242.length co20)] 27 (0, 0))) ∧ Aside0 (Below w.heap.size w wc))
       case first =>
        (have H := HC36.out);(clear HC36);(have H' := Aside0.mk H);(clear H)
        go_wp2
        go_loopg [20, 21, 22] kj15 (fun kq v20 v21 v22 w' => ∃ (x20_3 : Int) (x21_3 : Int) (x22_3 : Int), v20 = .int .i64 x20_3 ∧ v21 = .int .i64 x21_3 ∧ v22 = .int .i64 x22_3 ∧ Aside0 (r7_LevelWalks.l0 kq l4 t246 t249 t253 x20_3 x21_3 x22_3 t239 t240 t241 t242 = some r) ∧ Aside0 (kq ≤ kj15) ∧ Aside0 (Kd.R (Kd.int .i64) 2 w' w.heap.size (fun k_ => some k_ ≠ (v250 : Value).ownBlock) (.slice Ao23 t246.length co23) t246) ∧ Aside0 (Kd.R (Kd.int .i64) 2 w' w.heap.size (fun k_ => some k_ ≠ ((.slice Ao23 t246.length co23) : Value).ownBlock) v250 t249) ∧ Aside0 (Kd.R k49 49 w' w.heap.size (fun _ => True) (.slice Ao20 t242.length co20) t242) ∧ Aside0 (w'.heap[gb245]? = some (.cells #[.int .i64 t239, .int .i64 t240, .int .i64 t241, (.slice Ao20 t242.length co20)] 27 (0, 0))) ∧ Aside0 (Below w.heap.size w w'))
        case atStart => exact ⟨(t240), (0), (0), (by first | rfl | (simp; done) | (simp [*]; done)), (by first | rfl | (simp; done) | (simp [*]; done)), (by first | rfl | (simp; done) | (simp [*]; done)), H', ⟨Nat.le_refl _⟩, ⟨by (with_reducible repeat first | apply Kd.R_alloc | apply Kd.R_drewN | apply Kd.R_drew); exact HO_13.out⟩, ⟨by (with_reducible repeat first | apply Kd.R_alloc | apply Kd.R_drewN | apply Kd.R_drew); exact HO_14.out⟩, ⟨by (with_reducible repeat first | apply Kd.R_alloc | apply Kd.R_drewN | apply Kd.R_drew); exact HO_246003.out⟩, ⟨by (with_reducible repeat first | refine blk_drewN ?_ _ | refine blk_drew ?_ | refine blk_alloc ?_ _); exact BK245.out⟩, ⟨by repeat (first | (with_reducible first | exact HB.out | apply below_alloc | apply pw_below_drewN | apply below_drew1 | refine below_set ?_ GE245.out) | exact HB.out)⟩⟩
        case round =>
         clear H'
         try clear c1
         try clear c2
         try clear p2
         try clear q2
         try clear hx2
         try clear c3
         try clear c4
         try clear c9
         try clear c10
         try clear c18
         try clear c22
         try clear c23
         try clear c24
         try clear p25
         try clear q25
         try clear hx25
         try clear c26
         try clear c29
         try clear c29b0
         try clear c29b1
         try clear c30
         try clear c30b0
         try clear c30b1
         try clear c31
         try clear c31b0
         try clear c32
         try clear c32b0
         try clear c33
         try clear c35
         try clear hcz19_0
         try clear hcz19_1
         try clear hcz19_2
         try clear hcz19_3
         try clear hcz22_0
         try clear hcz22_1
         try clear hcz22_2
         try clear hcz22_3
         try clear hcz25_0
         try clear hcz25_1
         try clear hcz25_2
         try clear hcz25_3
         try clear hcz27_0
         try clear hcz27_1
         try clear hcz27_2
         try clear hcz27_3
         try clear hcz33_0
         try clear hcz33_1
         try clear hcz33_2
         try clear hcz33_3
         try clear hcz37_0
         try clear hcz37_1
         try clear hcz37_2
         try clear hcz37_3
         try clear hfz19_0
         try clear hfz19_1
         try clear hfz19_2
         try clear hfz19_3
         try clear hfz22_0
         try clear hfz22_1
         try clear hfz22_2
         try clear hfz22_3
         try clear hfz25_0
         try clear hfz25_1
         try clear hfz25_2
         try clear hfz25_3
         try clear hfz27_0
         try clear hfz27_1
         try clear hfz27_2
         try clear hfz27_3
         try clear hfz33_0
         try clear hfz33_1
         try clear hfz33_2
         try clear hfz33_3
         try clear hfz37_0
         try clear hfz37_1
         try clear hfz37_2
         try clear hfz37_3
         try clear hx259_0
         try clear p2
         try clear p25
         try clear p259
         try clear q2
         try clear q25
         try clear q259
         obtain ⟨x20_3, x21_3, x22_3, rfl, rfl, rfl, HA, HK3, HO_13, HO_14, HO_246003, BK245, HB⟩ := hrel
         cases gk with
         | zero => exact absurd HA.out (by simp [r7_LevelWalks.l0])
         | succ k3 =>
          (have H := HA.out);(clear HA);(simp only [r7_LevelWalks.l0] at H);(have HC38 := Aside0.mk H);(clear H)
          go_upto_region 14 with (fail)
          go_cut [94] (fun v94 wc => ∃ (kq : Nat) (x94_37 : Bool), v94 = .bool x94_37 ∧ Aside0 (r7_LevelWalks.j3 kq l4 t246 t249 t253 x20_3 x21_3 x22_3 x94_37 t239 t240 t241 t242 = some r) ∧ Aside0 (kq ≤ k3) ∧ Aside0 (Kd.R (Kd.int .i64) 2 wc w.heap.size (fun k_ => some k_ ≠ (v250 : Value).ownBlock) (.slice Ao23 t246.length co23) t246) ∧ Aside0 (Kd.R (Kd.int .i64) 2 wc w.heap.size (fun k_ => some k_ ≠ ((.slice Ao23 t246.length co23) : Value).ownBlock) v250 t249) ∧ Aside0 (Kd.R k49 49 wc w.heap.size (fun _ => True) (.slice Ao20 t242.length co20) t242) ∧ Aside0 (wc.heap[gb245]? = some (.cells #[.int .i64 t239, .int .i64 t240, .int .i64 t241, (.slice Ao20 t242.length co20)] 27 (0, 0))) ∧ Aside0 (Below w.heap.size w wc))
          case first =>
           (have H := HC38.out);(clear HC38)
           by_cases c39 : x22_3 < (l4.length : Int)
           ·(rw [if_pos c39] at H);(have c39b0 : decide (x22_3 < (l4.length : Int)) = true := decide_eq_true c39);(clear c39);((first | rw [c39b0] | (simp only [i64_w, i32_w]; rw [c39b0]) | skip));(have H' := Aside0.mk H);(clear H);(have hcz40_0 : wr.cell? ⟨gb245, 0, none⟩ = some (.int .i64 t239) := (blk_cell BK245.out 0).trans rfl);(have hcz40_1 : wr.cell? ⟨gb245, 1, none⟩ = some (.int .i64 t240) := (blk_cell BK245.out 1).trans rfl);(have hcz40_2 : wr.cell? ⟨gb245, 2, none⟩ = some (.int .i64 t241) := (blk_cell BK245.out 2).trans rfl);(have hcz40_3 : wr.cell? ⟨gb245, 3, none⟩ = some (.slice Ao20 t242.length co20) := (blk_cell BK245.out 3).trans rfl);(have hfz40_0 := blk_frozen BK245.out 0);(have hfz40_1 := blk_frozen BK245.out 1);(have hfz40_2 := blk_frozen BK245.out 2);(have hfz40_3 := blk_frozen BK245.out 3)
            go_wp2
            go_meet
            case rel => exact ⟨_, ((x20_3 != t241)), (by first | rfl | (simp; done) | (simp [*]; done)), H', ⟨by have := HJ6.out; have := HJ15.out; have := HK3.out; first | omega | exact Nat.le_refl _⟩, ⟨by (with_reducible repeat first | apply Kd.R_alloc | apply Kd.R_drewN | apply Kd.R_drew); exact HO_13.out⟩, ⟨by (with_reducible repeat first | apply Kd.R_alloc | apply Kd.R_drewN | apply Kd.R_drew); exact HO_14.out⟩, ⟨by (with_reducible repeat first | apply Kd.R_alloc | apply Kd.R_drewN | apply Kd.R_drew); exact HO_246003.out⟩, ⟨by (with_reducible repeat first | refine blk_drewN ?_ _ | refine blk_drew ?_ | refine blk_alloc ?_ _); exact BK245.out⟩, ⟨by repeat (first | (with_reducible first | exact HB.out | apply below_alloc | apply pw_below_drewN | apply below_drew1 | refine below_set ?_ GE245.out) | exact HB.out)⟩⟩
           ·(rw [if_neg c39] at H);(have c39b0 : decide (x22_3 < (l4.length : Int)) = false := decide_eq_false c39);(clear c39);((first | rw [c39b0] | (simp only [i64_w, i32_w]; rw [c39b0]) | skip));(have H' := Aside0.mk H);(clear H)
            go_wp2
            go_meet
            case rel => exact ⟨_, (false), (by first | rfl | (simp; done) | (simp [*]; done)), H', ⟨by have := HJ6.out; have := HJ15.out; have := HK3.out; first | omega | exact Nat.le_refl _⟩, ⟨by (with_reducible repeat first | apply Kd.R_alloc | apply Kd.R_drewN | apply Kd.R_drew); exact HO_13.out⟩, ⟨by (with_reducible repeat first | apply Kd.R_alloc | apply Kd.R_drewN | apply Kd.R_drew); exact HO_14.out⟩, ⟨by (with_reducible repeat first | apply Kd.R_alloc | apply Kd.R_drewN | apply Kd.R_drew); exact HO_246003.out⟩, ⟨by (with_reducible repeat first | refine blk_drewN ?_ _ | refine blk_drew ?_ | refine blk_alloc ?_ _); exact BK245.out⟩, ⟨by repeat (first | (with_reducible first | exact HB.out | apply below_alloc | apply pw_below_drewN | apply below_drew1 | refine below_set ?_ GE245.out) | exact HB.out)⟩⟩
          case rest =>
           clear HC38
           try clear c1
           try clear c2
           try clear p2
           try clear q2
           try clear hx2
           try clear c3
           try clear c4
           try clear c9
           try clear c10
           try clear c18
           try clear c22
           try clear c23
           try clear c24
           try clear p25
           try clear q25
           try clear hx25
           try clear c26
           try clear c29
           try clear c29b0
           try clear c29b1
           try clear c30
           try clear c30b0
           try clear c30b1
           try clear c31
           try clear c31b0
           try clear c32
           try clear c32b0
           try clear c33
           try clear c35
           try clear c39
           try clear c39b0
           try clear hcz19_0
           try clear hcz19_1
           try clear hcz19_2
           try clear hcz19_3
           try clear hcz22_0
           try clear hcz22_1
           try clear hcz22_2
           try clear hcz22_3
           try clear hcz25_0
           try clear hcz25_1
           try clear hcz25_2
           try clear hcz25_3
           try clear hcz27_0
           try clear hcz27_1
           try clear hcz27_2
           try clear hcz27_3
           try clear hcz33_0
           try clear hcz33_1
           try clear hcz33_2
           try clear hcz33_3
           try clear hcz37_0
           try clear hcz37_1
           try clear hcz37_2
           try clear hcz37_3
           try clear hcz40_0
           try clear hcz40_1
           try clear hcz40_2
           try clear hcz40_3
           try clear hfz19_0
           try clear hfz19_1
           try clear hfz19_2
           try clear hfz19_3
           try clear hfz22_0
           try clear hfz22_1
           try clear hfz22_2
           try clear hfz22_3
           try clear hfz25_0
           try clear hfz25_1
           try clear hfz25_2
           try clear hfz25_3
           try clear hfz27_0
           try clear hfz27_1
           try clear hfz27_2
           try clear hfz27_3
           try clear hfz33_0
           try clear hfz33_1
           try clear hfz33_2
           try clear hfz33_3
           try clear hfz37_0
           try clear hfz37_1
           try clear hfz37_2
           try clear hfz37_3
           try clear hfz40_0
           try clear hfz40_1
           try clear hfz40_2
           try clear hfz40_3
           try clear hx259_0
           try clear p2
           try clear p25
           try clear p259
           try clear q2
           try clear q25
           try clear q259
           obtain ⟨kq, x94_37, rfl, HA, HJ37, HO_13, HO_14, HO_246003, BK245, HB⟩ := hcut
           cases kq with
           | zero => exact absurd HA.out (by simp [r7_LevelWalks.j3])
           | succ kj37 =>
            (have H := HA.out);(clear HA);(simp only [r7_LevelWalks.j3] at H)
            by_cases c41 : x94_37 = true
            ·(subst c41);(have H1 : ((residual_From.f kj37 t239 t240 t241 t242 x20_3).bind fun t260 => (if (t260.length : Int) = 0 then (r7_LevelWalks.j4 kj37 t246 t253 x20_3 x21_3 t239 t240 t241 t242) else (if 0 ≤ x22_3 then (if x22_3 < (l4.length : Int) then ((r7_pick.f (rd l4 x22_3) (t260.length : Int)).bind fun t264 => (if 0 ≤ t264 then (if t264 < (t260.length : Int) then (if 0 ≤ (rd t260 t264) then (if (rd t260 t264) < (t249.length : Int) then (if (rd t249 (rd t260 t264)) > 0 then ((residual_Ends.f kj37 t239 t240 t241 t242 (rd t260 t264)).bind fun bt267 => (r7_LevelWalks.l0 kj37 l4 t246 t249 t253 bt267.2 (wrap64 (x21_3 + 1)) (wrap64 (x22_3 + 1)) t239 t240 t241 t242)) else (r7_LevelWalks.l0 kj37 l4 t246 t249 t253 x20_3 x21_3 (wrap64 (x22_3 + 1)) t239 t240 t241 t242)) else (none)) else (none)) else (none)) else (none))) else (none)) else (none)))) = some r := by rw [if_pos rfl] at H; exact H);(clear H);(have H := H1);(clear H1);(replace H := Option.bind_eq_some_iff.mp H);(obtain ⟨t260, A420, H⟩ := H);(replace H : (if (t260.length : Int) = 0 then (r7_LevelWalks.j4 kj37 t246 t253 x20_3 x21_3 t239 t240 t241 t242) else (if 0 ≤ x22_3 then (if x22_3 < (l4.length : Int) then ((r7_pick.f (rd l4 x22_3) (t260.length : Int)).bind fun t264 => (if 0 ≤ t264 then (if t264 < (t260.length : Int) then (if 0 ≤ (rd t260 t264) then (if (rd t260 t264) < (t249.length : Int) then (if (rd t249 (rd t260 t264)) > 0 then ((residual_Ends.f kj37 t239 t240 t241 t242 (rd t260 t264)).bind fun bt267 => (r7_LevelWalks.l0 kj37 l4 t246 t249 t253 bt267.2 (wrap64 (x21_3 + 1)) (wrap64 (x22_3 + 1)) t239 t240 t241 t242)) else (r7_LevelWalks.l0 kj37 l4 t246 t249 t253 x20_3 x21_3 (wrap64 (x22_3 + 1)) t239 t240 t241 t242)) else (none)) else (none)) else (none)) else (none))) else (none)) else (none))) = some r := H);(have A42 := Aside0.mk A420);(clear A420)
             by_cases c43 : (t260.length : Int) = 0
             ·(rw [if_pos c43] at H);(have c43b0 : ((t260.length : Int) == 0) = true := beq_iff_eq.mpr c43);(have c43b1 : ((t260.length : Int) != 0) = false := bne_eq_false_iff_eq.mpr c43);(clear c43);(have H' := Aside0.mk H);(clear H);(have hcz44_0 : wc.cell? ⟨gb245, 0, none⟩ = some (.int .i64 t239) := (blk_cell BK245.out 0).trans rfl);(have hcz44_1 : wc.cell? ⟨gb245, 1, none⟩ = some (.int .i64 t240) := (blk_cell BK245.out 1).trans rfl);(have hcz44_2 : wc.cell? ⟨gb245, 2, none⟩ = some (.int .i64 t241) := (blk_cell BK245.out 2).trans rfl);(have hcz44_3 : wc.cell? ⟨gb245, 3, none⟩ = some (.slice Ao20 t242.length co20) := (blk_cell BK245.out 3).trans rfl);(have hfz44_0 := blk_frozen BK245.out 0);(have hfz44_1 := blk_frozen BK245.out 1);(have hfz44_2 := blk_frozen BK245.out 2);(have hfz44_3 := blk_frozen BK245.out 3)
              go_wp2_with (first | ((with_reducible refine gate_callee (f := 20) rfl ?_); refine goesL_ (some 99) rfl rfl Try.func20 (by kernel_rfl) rfl #[.agg #[.int .i64 t239, .int .i64 t240, .int .i64 t241, .slice Ao20 t242.length co20], .int .i64 x20_3] rfl (by (try simp only [List.map_toArray, List.map_cons, List.map_nil]); first | done | rfl | (simp only [List.length_drop, List.length_take]; rfl)) ?_; (with_reducible refine (residual_From.calls kj37 t239 t240 t241 _ _ t242 x20_3 t260 _ ?side1 ?side2 A42.out).mono ?_); (case side1 => repeat (first | exact (Kd.R_reads' HO_246003.out).2.2 | (with_reducible refine Kd.C_alloc ?_ _) | (with_reducible refine Kd.C_drewN ?_ _) | (with_reducible refine Kd.C_drew ?_))); (case side2 => exact (Kd.R_reads' HO_246003.out).2.1); rintro e w45 ⟨v261, rfl, ho0, hb⟩; refine ⟨_, rfl, ?_⟩; have n0_ := Aside0.mk (Kd.R_below (by (with_reducible repeat first | apply Kd.R_alloc | apply Kd.R_drewN | apply Kd.R_drew); exact HO_13.out) hb); have n1_ := Aside0.mk (Kd.R_below (by (with_reducible repeat first | apply Kd.R_alloc | apply Kd.R_drewN | apply Kd.R_drew); exact HO_14.out) hb); have n2_ := Aside0.mk (Kd.R_below (by (with_reducible repeat first | apply Kd.R_alloc | apply Kd.R_drewN | apply Kd.R_drew); exact HO_246003.out) hb); have n3_ := Aside0.mk (Kd.R_lower ho0 (below_size (by repeat (first | (with_reducible first | exact HB.out | apply below_alloc | apply pw_below_drewN | apply below_drew1 | refine below_set ?_ GE245.out) | exact HB.out)))); have n4_ := Aside0.mk (blk_below (g := gb245) (o := .cells #[.int .i64 t239, .int .i64 t240, .int .i64 t241, .slice Ao20 t242.length co20] 27 (0, 0)) (by (with_reducible repeat first | refine blk_drewN ?_ _ | refine blk_drew ?_ | refine blk_alloc ?_ _); exact BK245.out) hb); have n5_ := Aside0.mk (below_step (by repeat (first | (with_reducible first | exact HB.out | apply below_alloc | apply pw_below_drewN | apply below_drew1 | refine below_set ?_ GE245.out) | exact HB.out)) hb); clear HO_13; clear HO_14; clear HO_246003; clear BK245; clear HB; have HO_13 := n0_; have HO_14 := n1_; have HO_246003 := n2_; have HO262 := n3_; have BK245 := n4_; have HB := n5_; clear n0_ n1_ n2_ n3_ n4_ n5_; (try clear hb); (try clear hk); (try clear ho0); obtain ⟨Ao46, co46, eo46⟩ := Kd.R_slice HO262.out; subst eo46))
              go_meet
              case rel => exact ⟨_, (x20_3), (x21_3), (by first | rfl | (simp; done) | (simp [*]; done)), (by first | rfl | (simp; done) | (simp [*]; done)), H', ⟨by have := HJ6.out; have := HJ15.out; have := HK3.out; have := HJ37.out; first | omega | exact Nat.le_refl _⟩, ⟨by (with_reducible repeat first | apply Kd.R_alloc | apply Kd.R_drewN | apply Kd.R_drew); exact Kd.R_mono HO_13.out (fun _ hk => trivial)⟩, ⟨by (with_reducible repeat first | apply Kd.R_alloc | apply Kd.R_drewN | apply Kd.R_drew); exact HO_246003.out⟩, ⟨by (with_reducible repeat first | refine blk_drewN ?_ _ | refine blk_drew ?_ | refine blk_alloc ?_ _); exact BK245.out⟩, ⟨by repeat (first | (with_reducible first | exact HB.out | apply below_alloc | apply pw_below_drewN | apply below_drew1 | refine below_set ?_ GE245.out) | exact HB.out)⟩⟩
             ·(rw [if_neg c43] at H);(have c43b0 : ((t260.length : Int) == 0) = false := beq_eq_false_iff_ne.mpr c43);(have c43b1 : ((t260.length : Int) != 0) = true := bne_iff_ne.mpr c43);(have c43b2 : ¬ (t260 = []) := fun h_ => c43 (by rw [h_]; rfl))
              by_cases c47 : 0 ≤ x22_3
              ·(rw [if_pos c47] at H);(have c47b0 : decide (0 ≤ x22_3) = true := decide_eq_true c47);(clear c47)
               by_cases c48 : x22_3 < (l4.length : Int)
               ·(rw [if_pos c48] at H);(have c48b0 : decide (x22_3 < (l4.length : Int)) = true := decide_eq_true c48);(clear c48);(replace H := Option.bind_eq_some_iff.mp H);(obtain ⟨t264, A490, H⟩ := H);(replace H : (if 0 ≤ t264 then (if t264 < (t260.length : Int) then (if 0 ≤ (rd t260 t264) then (if (rd t260 t264) < (t249.length : Int) then (if (rd t249 (rd t260 t264)) > 0 then ((residual_Ends.f kj37 t239 t240 t241 t242 (rd t260 t264)).bind fun bt267 => (r7_LevelWalks.l0 kj37 l4 t246 t249 t253 bt267.2 (wrap64 (x21_3 + 1)) (wrap64 (x22_3 + 1)) t239 t240 t241 t242)) else (r7_LevelWalks.l0 kj37 l4 t246 t249 t253 x20_3 x21_3 (wrap64 (x22_3 + 1)) t239 t240 t241 t242)) else (none)) else (none)) else (none)) else (none)) = some r := H);(have A49 := Aside0.mk A490);(clear A490)
                by_cases c50 : 0 ≤ t264
                ·(rw [if_pos c50] at H);(have c50b0 : decide (0 ≤ t264) = true := decide_eq_true c50);(clear c50)
                 by_cases c51 : t264 < (t260.length : Int)
                 ·(rw [if_pos c51] at H);(have c51b0 : decide (t264 < (t260.length : Int)) = true := decide_eq_true c51);(clear c51)
                  by_cases c52 : 0 ≤ (rd t260 t264)
                  ·(rw [if_pos c52] at H);(have c52b0 : decide (0 ≤ (rd t260 t264)) = true := decide_eq_true c52);(clear c52)
                   by_cases c53 : (rd t260 t264) < (t249.length : Int)
                   ·(rw [if_pos c53] at H);(have c53b0 : decide ((rd t260 t264) < (t249.length : Int)) = true := decide_eq_true c53);(clear c53)
                    by_cases c54 : (rd t249 (rd t260 t264)) > 0
                    ·(rw [if_pos c54] at H);(have c54b0 : decide (0 < (rd t249 (rd t260 t264))) = true := decide_eq_true c54);(clear c54);(replace H := Option.bind_eq_some_iff.mp H);(obtain ⟨⟨t267, t268⟩, A550, H⟩ := H);(replace H : (r7_LevelWalks.l0 kj37 l4 t246 t249 t253 t268 (wrap64 (x21_3 + 1)) (wrap64 (x22_3 + 1)) t239 t240 t241 t242) = some r := H);(have A55 := Aside0.mk A550);(clear A550);(have H' := Aside0.mk H);(clear H);(have hcz56_0 : wc.cell? ⟨gb245, 0, none⟩ = some (.int .i64 t239) := (blk_cell BK245.out 0).trans rfl);(have hcz56_1 : wc.cell? ⟨gb245, 1, none⟩ = some (.int .i64 t240) := (blk_cell BK245.out 1).trans rfl);(have hcz56_2 : wc.cell? ⟨gb245, 2, none⟩ = some (.int .i64 t241) := (blk_cell BK245.out 2).trans rfl);(have hcz56_3 : wc.cell? ⟨gb245, 3, none⟩ = some (.slice Ao20 t242.length co20) := (blk_cell BK245.out 3).trans rfl);(have hfz56_0 := blk_frozen BK245.out 0);(have hfz56_1 := blk_frozen BK245.out 1);(have hfz56_2 := blk_frozen BK245.out 2);(have hfz56_3 := blk_frozen BK245.out 3)
                     go_wp2_with (first | ((with_reducible refine gate_callee (f := 20) rfl ?_); refine goesL_ (some 99) rfl rfl Try.func20 (by kernel_rfl) rfl #[.agg #[.int .i64 t239, .int .i64 t240, .int .i64 t241, .slice Ao20 t242.length co20], .int .i64 x20_3] rfl (by (try simp only [List.map_toArray, List.map_cons, List.map_nil]); first | done | rfl | (simp only [List.length_drop, List.length_take]; rfl)) ?_; (with_reducible refine (residual_From.calls kj37 t239 t240 t241 _ _ t242 x20_3 t260 _ ?side1 ?side2 A42.out).mono ?_); (case side1 => repeat (first | exact (Kd.R_reads' HO_246003.out).2.2 | (with_reducible refine Kd.C_alloc ?_ _) | (with_reducible refine Kd.C_drewN ?_ _) | (with_reducible refine Kd.C_drew ?_))); (case side2 => exact (Kd.R_reads' HO_246003.out).2.1); rintro e w57 ⟨v261, rfl, ho0, hb⟩; refine ⟨_, rfl, ?_⟩; have n0_ := Aside0.mk (Kd.R_below (by (with_reducible repeat first | apply Kd.R_alloc | apply Kd.R_drewN | apply Kd.R_drew); exact HO_13.out) hb); have n1_ := Aside0.mk (Kd.R_below (by (with_reducible repeat first | apply Kd.R_alloc | apply Kd.R_drewN | apply Kd.R_drew); exact HO_14.out) hb); have n2_ := Aside0.mk (Kd.R_below (by (with_reducible repeat first | apply Kd.R_alloc | apply Kd.R_drewN | apply Kd.R_drew); exact HO_246003.out) hb); have n3_ := Aside0.mk (Kd.R_lower ho0 (below_size (by repeat (first | (with_reducible first | exact HB.out | apply below_alloc | apply pw_below_drewN | apply below_drew1 | refine below_set ?_ GE245.out) | exact HB.out)))); have n4_ := Aside0.mk (blk_below (g := gb245) (o := .cells #[.int .i64 t239, .int .i64 t240, .int .i64 t241, .slice Ao20 t242.length co20] 27 (0, 0)) (by (with_reducible repeat first | refine blk_drewN ?_ _ | refine blk_drew ?_ | refine blk_alloc ?_ _); exact BK245.out) hb); have n5_ := Aside0.mk (below_step (by repeat (first | (with_reducible first | exact HB.out | apply below_alloc | apply pw_below_drewN | apply below_drew1 | refine below_set ?_ GE245.out) | exact HB.out)) hb); clear HO_13; clear HO_14; clear HO_246003; clear BK245; clear HB; have HO_13 := n0_; have HO_14 := n1_; have HO_246003 := n2_; have HO262 := n3_; have BK245 := n4_; have HB := n5_; clear n0_ n1_ n2_ n3_ n4_ n5_; (try clear hb); (try clear hk); (try clear ho0); obtain ⟨Ao58, co58, eo58⟩ := Kd.R_slice HO262.out; subst eo58; have p263 : 0 ≤ (x22_3 : Int) := of_decide_eq_true (by first | (with_reducible assumption) | assumption); have q263 : x22_3 < (l4.length : Int) := of_decide_eq_true (by first | (with_reducible assumption) | assumption); obtain ⟨ad263, e263, hx263_0⟩ := Kd.at_int HR4.out x22_3 p263 q263; cases e263; replace hx263_0 := (HB.out.cell (World.block_lt_of_cell? w _ hx263_0)).trans hx263_0; replace p263 := eq_true p263; replace q263 := eq_true q263) | ((with_reducible refine gate_callee (f := 25) rfl ?_); refine goesL_ (some 110) rfl rfl Try.func25 (by kernel_rfl) rfl #[.int .i64 (rd l4 x22_3), .int .i64 (t260.length : Int)] rfl (by (try simp only [List.map_toArray, List.map_cons, List.map_nil]); first | done | rfl | (simp only [List.length_drop, List.length_take]; rfl)) ?_; (with_reducible refine (r7_pick.calls (rd l4 x22_3) (t260.length : Int) t264 _ A49.out).mono ?_); rintro e w' ⟨rfl, ⟨nd, rfl⟩⟩; refine ⟨_, rfl, ?_⟩; have p265 : 0 ≤ (t264 : Int) := of_decide_eq_true (by first | (with_reducible assumption) | assumption); have q265 : t264 < (t260.length : Int) := of_decide_eq_true (by first | (with_reducible assumption) | assumption); obtain ⟨ad265, e265, hx265_0⟩ := Kd.at_int (Kd.R_reads' HO262.out).2.2 t264 p265 q265; cases e265; replace p265 := eq_true p265; replace q265 := eq_true q265; obtain ⟨Ao59, co59, eo59⟩ := Kd.R_slice HO_14.out; subst eo59; have p266 : 0 ≤ ((rd t260 t264) : Int) := of_decide_eq_true (by first | (with_reducible assumption) | assumption); have q266 : (rd t260 t264) < (t249.length : Int) := of_decide_eq_true (by first | (with_reducible assumption) | assumption); obtain ⟨ad266, e266, hx266_0⟩ := Kd.at_int (Kd.R_reads' HO_14.out).2.2 (rd t260 t264) p266 q266; cases e266; replace p266 := eq_true p266; replace q266 := eq_true q266; have hcz60_0 : w57.cell? ⟨gb245, 0, none⟩ = some (.int .i64 t239) := (blk_cell BK245.out 0).trans rfl; have hcz60_1 : w57.cell? ⟨gb245, 1, none⟩ = some (.int .i64 t240) := (blk_cell BK245.out 1).trans rfl; have hcz60_2 : w57.cell? ⟨gb245, 2, none⟩ = some (.int .i64 t241) := (blk_cell BK245.out 2).trans rfl; have hcz60_3 : w57.cell? ⟨gb245, 3, none⟩ = some (.slice Ao20 t242.length co20) := (blk_cell BK245.out 3).trans rfl; have hfz60_0 := blk_frozen BK245.out 0; have hfz60_1 := blk_frozen BK245.out 1; have hfz60_2 := blk_frozen BK245.out 2; have hfz60_3 := blk_frozen BK245.out 3) | ((with_reducible refine gate_callee (f := 21) rfl ?_); refine goesL_ (some 121) rfl rfl Try.func21 (by kernel_rfl) rfl #[.agg #[.int .i64 t239, .int .i64 t240, .int .i64 t241, .slice Ao20 t242.length co20], .int .i64 (rd t260 t264)] rfl (by (try simp only [List.map_toArray, List.map_cons, List.map_nil]); first | done | rfl | (simp only [List.length_drop, List.length_take]; rfl)) ?_; (with_reducible refine (residual_Ends.calls kj37 t239 t240 t241 _ _ t242 (rd t260 t264) t267 t268 _ ?side1 ?side2 A55.out).mono ?_); (case side1 => repeat (first | exact (Kd.R_reads' HO_246003.out).2.2 | (with_reducible refine Kd.C_alloc ?_ _) | (with_reducible refine Kd.C_drewN ?_ _) | (with_reducible refine Kd.C_drew ?_))); (case side2 => exact (Kd.R_reads' HO_246003.out).2.1); rintro e w61 ⟨rfl, hb⟩; refine ⟨_, rfl, ?_⟩; have n0_ := Aside0.mk (Kd.R_below (by (with_reducible repeat first | apply Kd.R_alloc | apply Kd.R_drewN | apply Kd.R_drew); exact HO_13.out) hb); have n1_ := Aside0.mk (Kd.R_below (by (with_reducible repeat first | apply Kd.R_alloc | apply Kd.R_drewN | apply Kd.R_drew); exact HO_14.out) hb); have n2_ := Aside0.mk (Kd.R_below (by (with_reducible repeat first | apply Kd.R_alloc | apply Kd.R_drewN | apply Kd.R_drew); exact HO_246003.out) hb); have n3_ := Aside0.mk (Kd.R_below (by (with_reducible repeat first | apply Kd.R_alloc | apply Kd.R_drewN | apply Kd.R_drew); exact HO262.out) hb); have n4_ := Aside0.mk (blk_below (g := gb245) (o := .cells #[.int .i64 t239, .int .i64 t240, .int .i64 t241, .slice Ao20 t242.length co20] 27 (0, 0)) (by (with_reducible repeat first | refine blk_drewN ?_ _ | refine blk_drew ?_ | refine blk_alloc ?_ _); exact BK245.out) hb); have n5_ := Aside0.mk (below_step (by repeat (first | (with_reducible first | exact HB.out | apply below_alloc | apply pw_below_drewN | apply below_drew1 | refine below_set ?_ GE245.out) | exact HB.out)) hb); clear HO_13; clear HO_14; clear HO_246003; clear HO262; clear BK245; clear HB; have HO_13 := n0_; have HO_14 := n1_; have HO_246003 := n2_; have HO262 := n3_; have BK245 := n4_; have HB := n5_; clear n0_ n1_ n2_ n3_ n4_ n5_; (try clear hb); (try clear hk)))
                     go_roundg kj37
                     case measure => have := HJ6.out; have := HJ15.out; have := HK3.out; have := HJ37.out; omega
                     case rel => exact ⟨(t268), (wrap64 (x21_3 + 1)), (wrap64 (x22_3 + 1)), (by first | rfl | (simp; done) | (simp [*]; done)), (by first | rfl | (simp; done) | (simp [*]; done)), (by first | rfl | (simp; done) | (simp [*]; done)), H', ⟨by have := HJ6.out; have := HJ15.out; have := HK3.out; have := HJ37.out; omega⟩, ⟨by (with_reducible repeat first | apply Kd.R_alloc | apply Kd.R_drewN | apply Kd.R_drew); exact HO_13.out⟩, ⟨by (with_reducible repeat first | apply Kd.R_alloc | apply Kd.R_drewN | apply Kd.R_drew); exact HO_14.out⟩, ⟨by (with_reducible repeat first | apply Kd.R_alloc | apply Kd.R_drewN | apply Kd.R_drew); exact HO_246003.out⟩, ⟨by (with_reducible repeat first | refine blk_drewN ?_ _ | refine blk_drew ?_ | refine blk_alloc ?_ _); exact BK245.out⟩, ⟨by repeat (first | (with_reducible first | exact HB.out | apply below_alloc | apply pw_below_drewN | apply below_drew1 | refine below_set ?_ GE245.out) | exact HB.out)⟩⟩
                    ·(rw [if_neg c54] at H);(have c54b0 : decide (0 < (rd t249 (rd t260 t264))) = false := decide_eq_false c54);(clear c54);(have H' := Aside0.mk H);(clear H);(have hcz62_0 : wc.cell? ⟨gb245, 0, none⟩ = some (.int .i64 t239) := (blk_cell BK245.out 0).trans rfl);(have hcz62_1 : wc.cell? ⟨gb245, 1, none⟩ = some (.int .i64 t240) := (blk_cell BK245.out 1).trans rfl);(have hcz62_2 : wc.cell? ⟨gb245, 2, none⟩ = some (.int .i64 t241) := (blk_cell BK245.out 2).trans rfl);(have hcz62_3 : wc.cell? ⟨gb245, 3, none⟩ = some (.slice Ao20 t242.length co20) := (blk_cell BK245.out 3).trans rfl);(have hfz62_0 := blk_frozen BK245.out 0);(have hfz62_1 := blk_frozen BK245.out 1);(have hfz62_2 := blk_frozen BK245.out 2);(have hfz62_3 := blk_frozen BK245.out 3)
                     go_wp2_with (first | ((with_reducible refine gate_callee (f := 20) rfl ?_); refine goesL_ (some 99) rfl rfl Try.func20 (by kernel_rfl) rfl #[.agg #[.int .i64 t239, .int .i64 t240, .int .i64 t241, .slice Ao20 t242.length co20], .int .i64 x20_3] rfl (by (try simp only [List.map_toArray, List.map_cons, List.map_nil]); first | done | rfl | (simp only [List.length_drop, List.length_take]; rfl)) ?_; (with_reducible refine (residual_From.calls kj37 t239 t240 t241 _ _ t242 x20_3 t260 _ ?side1 ?side2 A42.out).mono ?_); (case side1 => repeat (first | exact (Kd.R_reads' HO_246003.out).2.2 | (with_reducible refine Kd.C_alloc ?_ _) | (with_reducible refine Kd.C_drewN ?_ _) | (with_reducible refine Kd.C_drew ?_))); (case side2 => exact (Kd.R_reads' HO_246003.out).2.1); rintro e w63 ⟨v261, rfl, ho0, hb⟩; refine ⟨_, rfl, ?_⟩; have n0_ := Aside0.mk (Kd.R_below (by (with_reducible repeat first | apply Kd.R_alloc | apply Kd.R_drewN | apply Kd.R_drew); exact HO_13.out) hb); have n1_ := Aside0.mk (Kd.R_below (by (with_reducible repeat first | apply Kd.R_alloc | apply Kd.R_drewN | apply Kd.R_drew); exact HO_14.out) hb); have n2_ := Aside0.mk (Kd.R_below (by (with_reducible repeat first | apply Kd.R_alloc | apply Kd.R_drewN | apply Kd.R_drew); exact HO_246003.out) hb); have n3_ := Aside0.mk (Kd.R_lower ho0 (below_size (by repeat (first | (with_reducible first | exact HB.out | apply below_alloc | apply pw_below_drewN | apply below_drew1 | refine below_set ?_ GE245.out) | exact HB.out)))); have n4_ := Aside0.mk (blk_below (g := gb245) (o := .cells #[.int .i64 t239, .int .i64 t240, .int .i64 t241, .slice Ao20 t242.length co20] 27 (0, 0)) (by (with_reducible repeat first | refine blk_drewN ?_ _ | refine blk_drew ?_ | refine blk_alloc ?_ _); exact BK245.out) hb); have n5_ := Aside0.mk (below_step (by repeat (first | (with_reducible first | exact HB.out | apply below_alloc | apply pw_below_drewN | apply below_drew1 | refine below_set ?_ GE245.out) | exact HB.out)) hb); clear HO_13; clear HO_14; clear HO_246003; clear BK245; clear HB; have HO_13 := n0_; have HO_14 := n1_; have HO_246003 := n2_; have HO262 := n3_; have BK245 := n4_; have HB := n5_; clear n0_ n1_ n2_ n3_ n4_ n5_; (try clear hb); (try clear hk); (try clear ho0); obtain ⟨Ao64, co64, eo64⟩ := Kd.R_slice HO262.out; subst eo64; have p263 : 0 ≤ (x22_3 : Int) := of_decide_eq_true (by first | (with_reducible assumption) | assumption); have q263 : x22_3 < (l4.length : Int) := of_decide_eq_true (by first | (with_reducible assumption) | assumption); obtain ⟨ad263, e263, hx263_0⟩ := Kd.at_int HR4.out x22_3 p263 q263; cases e263; replace hx263_0 := (HB.out.cell (World.block_lt_of_cell? w _ hx263_0)).trans hx263_0; replace p263 := eq_true p263; replace q263 := eq_true q263) | ((with_reducible refine gate_callee (f := 25) rfl ?_); refine goesL_ (some 110) rfl rfl Try.func25 (by kernel_rfl) rfl #[.int .i64 (rd l4 x22_3), .int .i64 (t260.length : Int)] rfl (by (try simp only [List.map_toArray, List.map_cons, List.map_nil]); first | done | rfl | (simp only [List.length_drop, List.length_take]; rfl)) ?_; (with_reducible refine (r7_pick.calls (rd l4 x22_3) (t260.length : Int) t264 _ A49.out).mono ?_); rintro e w' ⟨rfl, ⟨nd, rfl⟩⟩; refine ⟨_, rfl, ?_⟩; have p265 : 0 ≤ (t264 : Int) := of_decide_eq_true (by first | (with_reducible assumption) | assumption); have q265 : t264 < (t260.length : Int) := of_decide_eq_true (by first | (with_reducible assumption) | assumption); obtain ⟨ad265, e265, hx265_0⟩ := Kd.at_int (Kd.R_reads' HO262.out).2.2 t264 p265 q265; cases e265; replace p265 := eq_true p265; replace q265 := eq_true q265; obtain ⟨Ao65, co65, eo65⟩ := Kd.R_slice HO_14.out; subst eo65; have p266 : 0 ≤ ((rd t260 t264) : Int) := of_decide_eq_true (by first | (with_reducible assumption) | assumption); have q266 : (rd t260 t264) < (t249.length : Int) := of_decide_eq_true (by first | (with_reducible assumption) | assumption); obtain ⟨ad266, e266, hx266_0⟩ := Kd.at_int (Kd.R_reads' HO_14.out).2.2 (rd t260 t264) p266 q266; cases e266; replace p266 := eq_true p266; replace q266 := eq_true q266))
                     go_roundg kj37
                     case measure => have := HJ6.out; have := HJ15.out; have := HK3.out; have := HJ37.out; omega
                     case rel => exact ⟨(x20_3), (x21_3), (wrap64 (x22_3 + 1)), (by first | rfl | (simp; done) | (simp [*]; done)), (by first | rfl | (simp; done) | (simp [*]; done)), (by first | rfl | (simp; done) | (simp [*]; done)), H', ⟨by have := HJ6.out; have := HJ15.out; have := HK3.out; have := HJ37.out; omega⟩, ⟨by (with_reducible repeat first | apply Kd.R_alloc | apply Kd.R_drewN | apply Kd.R_drew); exact HO_13.out⟩, ⟨by (with_reducible repeat first | apply Kd.R_alloc | apply Kd.R_drewN | apply Kd.R_drew); exact HO_14.out⟩, ⟨by (with_reducible repeat first | apply Kd.R_alloc | apply Kd.R_drewN | apply Kd.R_drew); exact HO_246003.out⟩, ⟨by (with_reducible repeat first | refine blk_drewN ?_ _ | refine blk_drew ?_ | refine blk_alloc ?_ _); exact BK245.out⟩, ⟨by repeat (first | (with_reducible first | exact HB.out | apply below_alloc | apply pw_below_drewN | apply below_drew1 | refine below_set ?_ GE245.out) | exact HB.out)⟩⟩
                   ·(rw [if_neg c53] at H);(exact absurd H (by simp))
                  ·(rw [if_neg c52] at H);(exact absurd H (by simp))
                 ·(rw [if_neg c51] at H);(exact absurd H (by simp))
                ·(rw [if_neg c50] at H);(exact absurd H (by simp))
               ·(rw [if_neg c48] at H);(exact absurd H (by simp))
              ·(rw [if_neg c47] at H);(exact absurd H (by simp))
            ·(replace c41 := Bool.eq_false_iff.mpr c41);(subst c41);(have H1 : (r7_LevelWalks.j4 kj37 t246 t253 x20_3 x21_3 t239 t240 t241 t242) = some r := by rw [if_neg (show ¬ (false = true) by decide)] at H; exact H);(clear H);(have H := H1);(clear H1);(have H' := Aside0.mk H);(clear H)
             go_wp2
             go_meet
             case rel => exact ⟨_, (x20_3), (x21_3), (by first | rfl | (simp; done) | (simp [*]; done)), (by first | rfl | (simp; done) | (simp [*]; done)), H', ⟨by have := HJ6.out; have := HJ15.out; have := HK3.out; have := HJ37.out; first | omega | exact Nat.le_refl _⟩, ⟨by (with_reducible repeat first | apply Kd.R_alloc | apply Kd.R_drewN | apply Kd.R_drew); exact Kd.R_mono HO_13.out (fun _ hk => trivial)⟩, ⟨by (with_reducible repeat first | apply Kd.R_alloc | apply Kd.R_drewN | apply Kd.R_drew); exact HO_246003.out⟩, ⟨by (with_reducible repeat first | refine blk_drewN ?_ _ | refine blk_drew ?_ | refine blk_alloc ?_ _); exact BK245.out⟩, ⟨by repeat (first | (with_reducible first | exact HB.out | apply below_alloc | apply pw_below_drewN | apply below_drew1 | refine below_set ?_ GE245.out) | exact HB.out)⟩⟩
       case rest =>
        clear HC36
        try clear c1
        try clear c2
        try clear p2
        try clear q2
        try clear hx2
        try clear c3
        try clear c4
        try clear c5
        try clear p6
        try clear c9
        try clear c10
        try clear c18
        try clear c20
        try clear c21
        try clear c22
        try clear c23
        try clear c24
        try clear c25
        try clear p25
        try clear q25
        try clear hx25
        try clear c26
        try clear p26
        try clear q26
        try clear hx26
        try clear c29
        try clear c29b0
        try clear c29b1
        try clear c30
        try clear c30b0
        try clear c30b1
        try clear c31
        try clear c31b0
        try clear c32
        try clear c32b0
        try clear c33
        try clear c35
        try clear c39
        try clear c39b0
        try clear c41
        try clear c43
        try clear c43b0
        try clear c43b1
        try clear c43b2
        try clear c47
        try clear c47b0
        try clear c48
        try clear c48b0
        try clear c50
        try clear c50b0
        try clear c51
        try clear c51b0
        try clear c52
        try clear c52b0
        try clear c53
        try clear c53b0
        try clear c54
        try clear c54b0
        try clear p64
        try clear hcz19_0
        try clear hcz19_1
        try clear hcz19_2
        try clear hcz19_3
        try clear hcz22_0
        try clear hcz22_1
        try clear hcz22_2
        try clear hcz22_3
        try clear hcz25_0
        try clear hcz25_1
        try clear hcz25_2
        try clear hcz25_3
        try clear hcz27_0
        try clear hcz27_1
        try clear hcz27_2
        try clear hcz27_3
        try clear hcz33_0
        try clear hcz33_1
        try clear hcz33_2
        try clear hcz33_3
        try clear hcz37_0
        try clear hcz37_1
        try clear hcz37_2
        try clear hcz37_3
        try clear hcz40_0
        try clear hcz40_1
        try clear hcz40_2
        try clear hcz40_3
        try clear hcz44_0
        try clear hcz44_1
        try clear hcz44_2
        try clear hcz44_3
        try clear hcz56_0
        try clear hcz56_1
        try clear hcz56_2
        try clear hcz56_3
        try clear hcz60_0
        try clear hcz60_1
        try clear hcz60_2
        try clear hcz60_3
        try clear hcz62_0
        try clear hcz62_1
        try clear hcz62_2
        try clear hcz62_3
        try clear hfz19_0
        try clear hfz19_1
        try clear hfz19_2
        try clear hfz19_3
        try clear hfz22_0
        try clear hfz22_1
        try clear hfz22_2
        try clear hfz22_3
        try clear hfz25_0
        try clear hfz25_1
        try clear hfz25_2
        try clear hfz25_3
        try clear hfz27_0
        try clear hfz27_1
        try clear hfz27_2
        try clear hfz27_3
        try clear hfz33_0
        try clear hfz33_1
        try clear hfz33_2
        try clear hfz33_3
        try clear hfz37_0
        try clear hfz37_1
        try clear hfz37_2
        try clear hfz37_3
        try clear hfz40_0
        try clear hfz40_1
        try clear hfz40_2
        try clear hfz40_3
        try clear hfz44_0
        try clear hfz44_1
        try clear hfz44_2
        try clear hfz44_3
        try clear hfz56_0
        try clear hfz56_1
        try clear hfz56_2
        try clear hfz56_3
        try clear hfz60_0
        try clear hfz60_1
        try clear hfz60_2
        try clear hfz60_3
        try clear hfz62_0
        try clear hfz62_1
        try clear hfz62_2
        try clear hfz62_3
        try clear hx259_0
        try clear hx263_0
        try clear hx265_0
        try clear hx266_0
        try clear p2
        try clear p25
        try clear p259
        try clear p263
        try clear p265
        try clear p266
        try clear q2
        try clear q25
        try clear q259
        try clear q263
        try clear q265
        try clear q266
        obtain ⟨kq, x20_35, x21_35, rfl, rfl, HA, HJ35, HO_13, HO_246003, BK245, HB⟩ := hcut
        cases kq with
        | zero => exact absurd HA.out (by simp [r7_LevelWalks.j4])
        | succ kj35 =>
         (have H := HA.out);(clear HA);(simp only [r7_LevelWalks.j4] at H);(have HC66 := Aside0.mk H);(clear H)
         go_upto_region 23 with (fail)
         go_cut [139] (fun v139 wc => ∃ (kq : Nat) (x139_65 : Bool), v139 = .bool x139_65 ∧ Aside0 (r7_LevelWalks.j5 kq t246 t253 x139_65 t239 t240 t241 t242 = some r) ∧ Aside0 (kq ≤ kj35) ∧ Aside0 (Kd.R (Kd.int .i64) 2 wc w.heap.size (fun _ => True) (.slice Ao23 t246.length co23) t246) ∧ Aside0 (Kd.R k49 49 wc w.heap.size (fun _ => True) (.slice Ao20 t242.length co20) t242) ∧ Aside0 (wc.heap[gb245]? = some (.cells #[.int .i64 t239, .int .i64 t240, .int .i64 t241, (.slice Ao20 t242.length co20)] 27 (0, 0))) ∧ Aside0 (Below w.heap.size w wc))
         case first =>
          (have H := HC66.out);(clear HC66)
          by_cases c67 : x20_35 = t241
          ·(rw [if_pos c67] at H);(have c67b0 : (x20_35 == t241) = true := beq_iff_eq.mpr c67);(have c67b1 : (x20_35 != t241) = false := bne_eq_false_iff_eq.mpr c67);(clear c67);((first | rw [c67b0] | (simp only [i64_w, i32_w]; rw [c67b0]) | skip))
           by_cases c68 : t253 < 0
           ·(rw [if_pos c68] at H);(have c68b0 : decide (t253 < 0) = true := decide_eq_true c68);(clear c68);(have H' := Aside0.mk H);(clear H);(have hcz69_0 : wc.cell? ⟨gb245, 0, none⟩ = some (.int .i64 t239) := (blk_cell BK245.out 0).trans rfl);(have hcz69_1 : wc.cell? ⟨gb245, 1, none⟩ = some (.int .i64 t240) := (blk_cell BK245.out 1).trans rfl);(have hcz69_2 : wc.cell? ⟨gb245, 2, none⟩ = some (.int .i64 t241) := (blk_cell BK245.out 2).trans rfl);(have hcz69_3 : wc.cell? ⟨gb245, 3, none⟩ = some (.slice Ao20 t242.length co20) := (blk_cell BK245.out 3).trans rfl);(have hfz69_0 := blk_frozen BK245.out 0);(have hfz69_1 := blk_frozen BK245.out 1);(have hfz69_2 := blk_frozen BK245.out 2);(have hfz69_3 := blk_frozen BK245.out 3)
            go_wp2
            go_meet
            case rel => exact ⟨_, (true), (by first | rfl | (simp; done) | (simp [*]; done)), H', ⟨by have := HJ6.out; have := HJ15.out; have := HJ35.out; first | omega | exact Nat.le_refl _⟩, ⟨by (with_reducible repeat first | apply Kd.R_alloc | apply Kd.R_drewN | apply Kd.R_drew); exact HO_13.out⟩, ⟨by (with_reducible repeat first | apply Kd.R_alloc | apply Kd.R_drewN | apply Kd.R_drew); exact HO_246003.out⟩, ⟨by (with_reducible repeat first | refine blk_drewN ?_ _ | refine blk_drew ?_ | refine blk_alloc ?_ _); exact BK245.out⟩, ⟨by repeat (first | (with_reducible first | exact HB.out | apply below_alloc | apply pw_below_drewN | apply below_drew1 | refine below_set ?_ GE245.out) | exact HB.out)⟩⟩
           ·(rw [if_neg c68] at H);(have c68b0 : decide (t253 < 0) = false := decide_eq_false c68);(clear c68);(have H' := Aside0.mk H);(clear H);(have hcz70_0 : wc.cell? ⟨gb245, 0, none⟩ = some (.int .i64 t239) := (blk_cell BK245.out 0).trans rfl);(have hcz70_1 : wc.cell? ⟨gb245, 1, none⟩ = some (.int .i64 t240) := (blk_cell BK245.out 1).trans rfl);(have hcz70_2 : wc.cell? ⟨gb245, 2, none⟩ = some (.int .i64 t241) := (blk_cell BK245.out 2).trans rfl);(have hcz70_3 : wc.cell? ⟨gb245, 3, none⟩ = some (.slice Ao20 t242.length co20) := (blk_cell BK245.out 3).trans rfl);(have hfz70_0 := blk_frozen BK245.out 0);(have hfz70_1 := blk_frozen BK245.out 1);(have hfz70_2 := blk_frozen BK245.out 2);(have hfz70_3 := blk_frozen BK245.out 3)
            go_wp2
            go_meet
            case rel => exact ⟨_, (decide (x21_35 < t253)), (by first | rfl | (simp; done) | (simp [*]; done)), H', ⟨by have := HJ6.out; have := HJ15.out; have := HJ35.out; first | omega | exact Nat.le_refl _⟩, ⟨by (with_reducible repeat first | apply Kd.R_alloc | apply Kd.R_drewN | apply Kd.R_drew); exact HO_13.out⟩, ⟨by (with_reducible repeat first | apply Kd.R_alloc | apply Kd.R_drewN | apply Kd.R_drew); exact HO_246003.out⟩, ⟨by (with_reducible repeat first | refine blk_drewN ?_ _ | refine blk_drew ?_ | refine blk_alloc ?_ _); exact BK245.out⟩, ⟨by repeat (first | (with_reducible first | exact HB.out | apply below_alloc | apply pw_below_drewN | apply below_drew1 | refine below_set ?_ GE245.out) | exact HB.out)⟩⟩
          ·(rw [if_neg c67] at H);(have c67b0 : (x20_35 == t241) = false := beq_eq_false_iff_ne.mpr c67);(have c67b1 : (x20_35 != t241) = true := bne_iff_ne.mpr c67);((first | rw [c67b0] | (simp only [i64_w, i32_w]; rw [c67b0]) | skip));(have H' := Aside0.mk H);(clear H);(have hcz71_0 : wc.cell? ⟨gb245, 0, none⟩ = some (.int .i64 t239) := (blk_cell BK245.out 0).trans rfl);(have hcz71_1 : wc.cell? ⟨gb245, 1, none⟩ = some (.int .i64 t240) := (blk_cell BK245.out 1).trans rfl);(have hcz71_2 : wc.cell? ⟨gb245, 2, none⟩ = some (.int .i64 t241) := (blk_cell BK245.out 2).trans rfl);(have hcz71_3 : wc.cell? ⟨gb245, 3, none⟩ = some (.slice Ao20 t242.length co20) := (blk_cell BK245.out 3).trans rfl);(have hfz71_0 := blk_frozen BK245.out 0);(have hfz71_1 := blk_frozen BK245.out 1);(have hfz71_2 := blk_frozen BK245.out 2);(have hfz71_3 := blk_frozen BK245.out 3)
           go_wp2
           go_meet
           case rel => exact ⟨_, (false), (by first | rfl | (simp; done) | (simp [*]; done)), H', ⟨by have := HJ6.out; have := HJ15.out; have := HJ35.out; first | omega | exact Nat.le_refl _⟩, ⟨by (with_reducible repeat first | apply Kd.R_alloc | apply Kd.R_drewN | apply Kd.R_drew); exact HO_13.out⟩, ⟨by (with_reducible repeat first | apply Kd.R_alloc | apply Kd.R_drewN | apply Kd.R_drew); exact HO_246003.out⟩, ⟨by (with_reducible repeat first | refine blk_drewN ?_ _ | refine blk_drew ?_ | refine blk_alloc ?_ _); exact BK245.out⟩, ⟨by repeat (first | (with_reducible first | exact HB.out | apply below_alloc | apply pw_below_drewN | apply below_drew1 | refine below_set ?_ GE245.out) | exact HB.out)⟩⟩
         case rest =>
          clear HC66
          try clear c1
          try clear c2
          try clear p2
          try clear q2
          try clear hx2
          try clear c3
          try clear c4
          try clear c5
          try clear c6
          try clear p6
          try clear c9
          try clear c10
          try clear c18
          try clear c20
          try clear c21
          try clear c22
          try clear c23
          try clear c24
          try clear c25
          try clear p25
          try clear q25
          try clear hx25
          try clear c26
          try clear p26
          try clear q26
          try clear hx26
          try clear c29
          try clear c29b0
          try clear c29b1
          try clear c30
          try clear c30b0
          try clear c30b1
          try clear c31
          try clear c31b0
          try clear c32
          try clear c32b0
          try clear c33
          try clear c35
          try clear c39
          try clear c39b0
          try clear c41
          try clear c43
          try clear c43b0
          try clear c43b1
          try clear c43b2
          try clear c47
          try clear c47b0
          try clear c48
          try clear c48b0
          try clear c50
          try clear c50b0
          try clear c51
          try clear c51b0
          try clear c52
          try clear c52b0
          try clear c53
          try clear c53b0
          try clear c54
          try clear c54b0
          try clear p64
          try clear c67
          try clear c67b0
          try clear c67b1
          try clear c68
          try clear c68b0
          try clear hcz19_0
          try clear hcz19_1
          try clear hcz19_2
          try clear hcz19_3
          try clear hcz22_0
          try clear hcz22_1
          try clear hcz22_2
          try clear hcz22_3
          try clear hcz25_0
          try clear hcz25_1
          try clear hcz25_2
          try clear hcz25_3
          try clear hcz27_0
          try clear hcz27_1
          try clear hcz27_2
          try clear hcz27_3
          try clear hcz33_0
          try clear hcz33_1
          try clear hcz33_2
          try clear hcz33_3
          try clear hcz37_0
          try clear hcz37_1
          try clear hcz37_2
          try clear hcz37_3
          try clear hcz40_0
          try clear hcz40_1
          try clear hcz40_2
          try clear hcz40_3
          try clear hcz44_0
          try clear hcz44_1
          try clear hcz44_2
          try clear hcz44_3
          try clear hcz56_0
          try clear hcz56_1
          try clear hcz56_2
          try clear hcz56_3
          try clear hcz60_0
          try clear hcz60_1
          try clear hcz60_2
          try clear hcz60_3
          try clear hcz62_0
          try clear hcz62_1
          try clear hcz62_2
          try clear hcz62_3
          try clear hcz69_0
          try clear hcz69_1
          try clear hcz69_2
          try clear hcz69_3
          try clear hcz70_0
          try clear hcz70_1
          try clear hcz70_2
          try clear hcz70_3
          try clear hcz71_0
          try clear hcz71_1
          try clear hcz71_2
          try clear hcz71_3
          try clear hfz19_0
          try clear hfz19_1
          try clear hfz19_2
          try clear hfz19_3
          try clear hfz22_0
          try clear hfz22_1
          try clear hfz22_2
          try clear hfz22_3
          try clear hfz25_0
          try clear hfz25_1
          try clear hfz25_2
          try clear hfz25_3
          try clear hfz27_0
          try clear hfz27_1
          try clear hfz27_2
          try clear hfz27_3
          try clear hfz33_0
          try clear hfz33_1
          try clear hfz33_2
          try clear hfz33_3
          try clear hfz37_0
          try clear hfz37_1
          try clear hfz37_2
          try clear hfz37_3
          try clear hfz40_0
          try clear hfz40_1
          try clear hfz40_2
          try clear hfz40_3
          try clear hfz44_0
          try clear hfz44_1
          try clear hfz44_2
          try clear hfz44_3
          try clear hfz56_0
          try clear hfz56_1
          try clear hfz56_2
          try clear hfz56_3
          try clear hfz60_0
          try clear hfz60_1
          try clear hfz60_2
          try clear hfz60_3
          try clear hfz62_0
          try clear hfz62_1
          try clear hfz62_2
          try clear hfz62_3
          try clear hfz69_0
          try clear hfz69_1
          try clear hfz69_2
          try clear hfz69_3
          try clear hfz70_0
          try clear hfz70_1
          try clear hfz70_2
          try clear hfz70_3
          try clear hfz71_0
          try clear hfz71_1
          try clear hfz71_2
          try clear hfz71_3
          try clear hx259_0
          try clear hx263_0
          try clear hx265_0
          try clear hx266_0
          try clear p2
          try clear p25
          try clear p259
          try clear p26
          try clear p263
          try clear p265
          try clear p266
          try clear p6
          try clear p64
          try clear q2
          try clear q25
          try clear q259
          try clear q26
          try clear q263
          try clear q265
          try clear q266
          obtain ⟨kq, x139_65, rfl, HA, HJ65, HO_13, HO_246003, BK245, HB⟩ := hcut
          cases kq with
          | zero => exact absurd HA.out (by simp [r7_LevelWalks.j5])
          | succ kj65 =>
           (have H := HA.out);(clear HA);(simp only [r7_LevelWalks.j5] at H)
           by_cases c72 : x139_65 = true
           ·(subst c72);(have H1 : (some false) = some r := by rw [if_pos rfl] at H; exact H);(clear H);(have H := H1);(clear H1);(exact absurd ((Option.some.inj H).trans hrT_.out) (by simp))
           ·(replace c72 := Bool.eq_false_iff.mpr c72);(subst c72);(have H1 : ((level_Leads.f kj65 t239 t240 t241 t242 t246 1).bind fun bt269 => (r7_LevelWalks.l1 kj65 t253 t241 bt269.1 bt269.2 0 t239 t240 t241 t242)) = some r := by rw [if_neg (show ¬ (false = true) by decide)] at H; exact H);(clear H);(have H := H1);(clear H1);(replace H := Option.bind_eq_some_iff.mp H);(obtain ⟨⟨t269, t272⟩, A730, H⟩ := H);(replace H : (r7_LevelWalks.l1 kj65 t253 t241 t269 t272 0 t239 t240 t241 t242) = some r := H);(have A73 := Aside0.mk A730);(clear A730);(have H' := Aside0.mk H);(clear H);(have hcz74_0 : wc.cell? ⟨gb245, 0, none⟩ = some (.int .i64 t239) := (blk_cell BK245.out 0).trans rfl);(have hcz74_1 : wc.cell? ⟨gb245, 1, none⟩ = some (.int .i64 t240) := (blk_cell BK245.out 1).trans rfl);(have hcz74_2 : wc.cell? ⟨gb245, 2, none⟩ = some (.int .i64 t241) := (blk_cell BK245.out 2).trans rfl);(have hcz74_3 : wc.cell? ⟨gb245, 3, none⟩ = some (.slice Ao20 t242.length co20) := (blk_cell BK245.out 3).trans rfl);(have hfz74_0 := blk_frozen BK245.out 0);(have hfz74_1 := blk_frozen BK245.out 1);(have hfz74_2 := blk_frozen BK245.out 2);(have hfz74_3 := blk_frozen BK245.out 3)
            go_wp2_with (first | ((with_reducible refine gate_callee (f := 27) rfl ?_); refine goesL_ (some 143) rfl rfl Try.func27 (by kernel_rfl) rfl #[.agg #[.int .i64 t239, .int .i64 t240, .int .i64 t241, .slice Ao20 t242.length co20], .slice Ao23 t246.length co23, .int .i64 1] rfl (by (try simp only [List.map_toArray, List.map_cons, List.map_nil]); first | done | rfl | (simp only [List.length_drop, List.length_take]; rfl)) ?_; (with_reducible refine (level_Leads.calls kj65 t239 t240 t241 _ _ t242 _ _ t246 1 t269 t272 _ ?side1 ?side2 ?side3 ?side4 A73.out).mono ?_); (case side1 => repeat (first | exact (Kd.R_reads' HO_246003.out).2.2 | (with_reducible refine Kd.C_alloc ?_ _) | (with_reducible refine Kd.C_drewN ?_ _) | (with_reducible refine Kd.C_drew ?_))); (case side2 => exact (Kd.R_reads' HO_246003.out).2.1); (case side3 => repeat (first | exact (Kd.R_reads' HO_13.out).2.2 | (with_reducible refine Kd.C_alloc ?_ _) | (with_reducible refine Kd.C_drewN ?_ _) | (with_reducible refine Kd.C_drew ?_))); (case side4 => exact (Kd.R_reads' HO_13.out).2.1); rintro e w75 ⟨v270, rfl, ho0, hb⟩; refine ⟨_, rfl, ?_⟩; have n0_ := Aside0.mk (Kd.R_below (by (with_reducible repeat first | apply Kd.R_alloc | apply Kd.R_drewN | apply Kd.R_drew); exact HO_13.out) hb); have n1_ := Aside0.mk (Kd.R_below (by (with_reducible repeat first | apply Kd.R_alloc | apply Kd.R_drewN | apply Kd.R_drew); exact HO_246003.out) hb); have n2_ := Aside0.mk (Kd.R_lower ho0 (below_size (by repeat (first | (with_reducible first | exact HB.out | apply below_alloc | apply pw_below_drewN | apply below_drew1 | refine below_set ?_ GE245.out) | exact HB.out)))); have n3_ := Aside0.mk (blk_below (g := gb245) (o := .cells #[.int .i64 t239, .int .i64 t240, .int .i64 t241, .slice Ao20 t242.length co20] 27 (0, 0)) (by (with_reducible repeat first | refine blk_drewN ?_ _ | refine blk_drew ?_ | refine blk_alloc ?_ _); exact BK245.out) hb); have n4_ := Aside0.mk (below_step (by repeat (first | (with_reducible first | exact HB.out | apply below_alloc | apply pw_below_drewN | apply below_drew1 | refine below_set ?_ GE245.out) | exact HB.out)) hb); clear HO_13; clear HO_246003; clear BK245; clear HB; have HO_13 := n0_; have HO_246003 := n1_; have HO271 := n2_; have BK245 := n3_; have HB := n4_; clear n0_ n1_ n2_ n3_ n4_; (try clear hb); (try clear hk); (try clear ho0); have hcz76_0 : w75.cell? ⟨gb245, 0, none⟩ = some (.int .i64 t239) := (blk_cell BK245.out 0).trans rfl; have hcz76_1 : w75.cell? ⟨gb245, 1, none⟩ = some (.int .i64 t240) := (blk_cell BK245.out 1).trans rfl; have hcz76_2 : w75.cell? ⟨gb245, 2, none⟩ = some (.int .i64 t241) := (blk_cell BK245.out 2).trans rfl; have hcz76_3 : w75.cell? ⟨gb245, 3, none⟩ = some (.slice Ao20 t242.length co20) := (blk_cell BK245.out 3).trans rfl; have hfz76_0 := blk_frozen BK245.out 0; have hfz76_1 := blk_frozen BK245.out 1; have hfz76_2 := blk_frozen BK245.out 2; have hfz76_3 := blk_frozen BK245.out 3))
            go_loopg [20, 29] kj65 (fun kq v20 v29 w' => ∃ (x20_5 : Int) (x29_5 : Int), v20 = .int .i64 x20_5 ∧ v29 = .int .i64 x29_5 ∧ Aside0 (r7_LevelWalks.l1 kq t253 x20_5 t269 t272 x29_5 t239 t240 t241 t242 = some r) ∧ Aside0 (kq ≤ kj65) ∧ Aside0 (Kd.R (Kd.int .i64) 3 w' w.heap.size (fun _ => True) v270 t269) ∧ Aside0 (Kd.R k49 49 w' w.heap.size (fun _ => True) (.slice Ao20 t242.length co20) t242) ∧ Aside0 (w'.heap[gb245]? = some (.cells #[.int .i64 t239, .int .i64 t240, .int .i64 t241, (.slice Ao20 t242.length co20)] 27 (0, 0))) ∧ Aside0 (Below w.heap.size w w'))
            case atStart => exact ⟨(t241), (0), (by first | rfl | (simp; done) | (simp [*]; done)), (by first | rfl | (simp; done) | (simp [*]; done)), H', ⟨Nat.le_refl _⟩, ⟨by (with_reducible repeat first | apply Kd.R_alloc | apply Kd.R_drewN | apply Kd.R_drew); exact HO271.out⟩, ⟨by (with_reducible repeat first | apply Kd.R_alloc | apply Kd.R_drewN | apply Kd.R_drew); exact HO_246003.out⟩, ⟨by (with_reducible repeat first | refine blk_drewN ?_ _ | refine blk_drew ?_ | refine blk_alloc ?_ _); exact BK245.out⟩, ⟨by repeat (first | (with_reducible first | exact HB.out | apply below_alloc | apply pw_below_drewN | apply below_drew1 | refine below_set ?_ GE245.out) | exact HB.out)⟩⟩
            case round =>
             clear H'
             try clear c1
             try clear c2
             try clear p2
             try clear q2
             try clear hx2
             try clear c3
             try clear c4
             try clear c5
             try clear c6
             try clear p6
             try clear c7
             try clear c9
             try clear c10
             try clear c18
             try clear c20
             try clear c21
             try clear c22
             try clear c23
             try clear c24
             try clear c25
             try clear p25
             try clear q25
             try clear hx25
             try clear c26
             try clear p26
             try clear q26
             try clear hx26
             try clear c27
             try clear c29
             try clear c29b0
             try clear c29b1
             try clear c30
             try clear c30b0
             try clear c30b1
             try clear c31
             try clear c31b0
             try clear c32
             try clear c32b0
             try clear c33
             try clear c35
             try clear c39
             try clear c39b0
             try clear c41
             try clear c43
             try clear c43b0
             try clear c43b1
             try clear c43b2
             try clear c47
             try clear c47b0
             try clear c48
             try clear c48b0
             try clear c50
             try clear c50b0
             try clear c51
             try clear c51b0
             try clear c52
             try clear c52b0
             try clear c53
             try clear c53b0
             try clear c54
             try clear c54b0
             try clear p64
             try clear c67
             try clear c67b0
             try clear c67b1
             try clear c68
             try clear c68b0
             try clear c72
             try clear hcz19_0
             try clear hcz19_1
             try clear hcz19_2
             try clear hcz19_3
             try clear hcz22_0
             try clear hcz22_1
             try clear hcz22_2
             try clear hcz22_3
             try clear hcz25_0
             try clear hcz25_1
             try clear hcz25_2
             try clear hcz25_3
             try clear hcz27_0
             try clear hcz27_1
             try clear hcz27_2
             try clear hcz27_3
             try clear hcz33_0
             try clear hcz33_1
             try clear hcz33_2
             try clear hcz33_3
             try clear hcz37_0
             try clear hcz37_1
             try clear hcz37_2
             try clear hcz37_3
             try clear hcz40_0
             try clear hcz40_1
             try clear hcz40_2
             try clear hcz40_3
             try clear hcz44_0
             try clear hcz44_1
             try clear hcz44_2
             try clear hcz44_3
             try clear hcz56_0
             try clear hcz56_1
             try clear hcz56_2
             try clear hcz56_3
             try clear hcz60_0
             try clear hcz60_1
             try clear hcz60_2
             try clear hcz60_3
             try clear hcz62_0
             try clear hcz62_1
             try clear hcz62_2
             try clear hcz62_3
             try clear hcz69_0
             try clear hcz69_1
             try clear hcz69_2
             try clear hcz69_3
             try clear hcz70_0
             try clear hcz70_1
             try clear hcz70_2
             try clear hcz70_3
             try clear hcz71_0
             try clear hcz71_1
             try clear hcz71_2
             try clear hcz71_3
             try clear hcz74_0
             try clear hcz74_1
             try clear hcz74_2
             try clear hcz74_3
             try clear hcz76_0
             try clear hcz76_1
             try clear hcz76_2
             try clear hcz76_3
             try clear hfz19_0
             try clear hfz19_1
             try clear hfz19_2
             try clear hfz19_3
             try clear hfz22_0
             try clear hfz22_1
             try clear hfz22_2
             try clear hfz22_3
             try clear hfz25_0
             try clear hfz25_1
             try clear hfz25_2
             try clear hfz25_3
             try clear hfz27_0
             try clear hfz27_1
             try clear hfz27_2
             try clear hfz27_3
             try clear hfz33_0
             try clear hfz33_1
             try clear hfz33_2
             try clear hfz33_3
             try clear hfz37_0
             try clear hfz37_1
             try clear hfz37_2
             try clear hfz37_3
             try clear hfz40_0
             try clear hfz40_1
             try clear hfz40_2
             try clear hfz40_3
             try clear hfz44_0
             try clear hfz44_1
             try clear hfz44_2
             try clear hfz44_3
             try clear hfz56_0
             try clear hfz56_1
             try clear hfz56_2
             try clear hfz56_3
             try clear hfz60_0
             try clear hfz60_1
             try clear hfz60_2
             try clear hfz60_3
             try clear hfz62_0
             try clear hfz62_1
             try clear hfz62_2
             try clear hfz62_3
             try clear hfz69_0
             try clear hfz69_1
             try clear hfz69_2
             try clear hfz69_3
             try clear hfz70_0
             try clear hfz70_1
             try clear hfz70_2
             try clear hfz70_3
             try clear hfz71_0
             try clear hfz71_1
             try clear hfz71_2
             try clear hfz71_3
             try clear hfz74_0
             try clear hfz74_1
             try clear hfz74_2
             try clear hfz74_3
             try clear hfz76_0
             try clear hfz76_1
             try clear hfz76_2
             try clear hfz76_3
             try clear hx259_0
             try clear hx263_0
             try clear hx265_0
             try clear hx266_0
             try clear p2
             try clear p25
             try clear p259
             try clear p26
             try clear p263
             try clear p265
             try clear p266
             try clear p6
             try clear p64
             try clear q2
             try clear q25
             try clear q259
             try clear q26
             try clear q263
             try clear q265
             try clear q266
             obtain ⟨x20_5, x29_5, rfl, rfl, HA, HK5, HO_27, HO_246003, BK245, HB⟩ := hrel
             cases gk with
             | zero => exact absurd HA.out (by simp [r7_LevelWalks.l1])
             | succ k5 =>
              (have H := HA.out);(clear HA);(simp only [r7_LevelWalks.l1] at H)
              by_cases c77 : x29_5 < t253
              ·(rw [if_pos c77] at H);(have c77b0 : decide (x29_5 < t253) = true := decide_eq_true c77);(clear c77);(have H' := Aside0.mk H);(clear H)
               go_wp2
               go_loopg [30, 31] k5 (fun kq v30 v31 w' => ∃ (x30_6 : Int) (x31_6 : Int), v30 = .int .i64 x30_6 ∧ v31 = .int .i64 x31_6 ∧ Aside0 (r7_LevelWalks.l2 kq t253 x20_5 t269 t272 x29_5 x30_6 x31_6 t239 t240 t241 t242 = some r) ∧ Aside0 (kq ≤ k5) ∧ Aside0 (Kd.R (Kd.int .i64) 3 w' w.heap.size (fun _ => True) v270 t269) ∧ Aside0 (Kd.R k49 49 w' w.heap.size (fun _ => True) (.slice Ao20 t242.length co20) t242) ∧ Aside0 (w'.heap[gb245]? = some (.cells #[.int .i64 t239, .int .i64 t240, .int .i64 t241, (.slice Ao20 t242.length co20)] 27 (0, 0))) ∧ Aside0 (Below w.heap.size w w'))
               case atStart => exact ⟨(0), (0), (by first | rfl | (simp; done) | (simp [*]; done)), (by first | rfl | (simp; done) | (simp [*]; done)), H', ⟨Nat.le_refl _⟩, ⟨by (with_reducible repeat first | apply Kd.R_alloc | apply Kd.R_drewN | apply Kd.R_drew); exact HO_27.out⟩, ⟨by (with_reducible repeat first | apply Kd.R_alloc | apply Kd.R_drewN | apply Kd.R_drew); exact HO_246003.out⟩, ⟨by (with_reducible repeat first | refine blk_drewN ?_ _ | refine blk_drew ?_ | refine blk_alloc ?_ _); exact BK245.out⟩, ⟨by repeat (first | (with_reducible first | exact HB.out | apply below_alloc | apply pw_below_drewN | apply below_drew1 | refine below_set ?_ GE245.out) | exact HB.out)⟩⟩
               case round =>
                clear H'
                try clear c1
                try clear c2
                try clear p2
                try clear q2
                try clear hx2
                try clear c3
                try clear c4
                try clear c5
                try clear c6
                try clear p6
                try clear c7
                try clear c9
                try clear c10
                try clear c18
                try clear c20
                try clear c21
                try clear c22
                try clear c23
                try clear c24
                try clear c25
                try clear p25
                try clear q25
                try clear hx25
                try clear c26
                try clear p26
                try clear q26
                try clear hx26
                try clear c27
                try clear c29
                try clear c29b0
                try clear c29b1
                try clear c30
                try clear c30b0
                try clear c30b1
                try clear c31
                try clear c31b0
                try clear c32
                try clear c32b0
                try clear c33
                try clear c35
                try clear c39
                try clear c39b0
                try clear c41
                try clear c43
                try clear c43b0
                try clear c43b1
                try clear c43b2
                try clear c47
                try clear c47b0
                try clear c48
                try clear c48b0
                try clear c50
                try clear c50b0
                try clear c51
                try clear c51b0
                try clear c52
                try clear c52b0
                try clear c53
                try clear c53b0
                try clear c54
                try clear c54b0
                try clear p64
                try clear c67
                try clear c67b0
                try clear c67b1
                try clear c68
                try clear c68b0
                try clear c72
                try clear c77
                try clear c77b0
                try clear hcz19_0
                try clear hcz19_1
                try clear hcz19_2
                try clear hcz19_3
                try clear hcz22_0
                try clear hcz22_1
                try clear hcz22_2
                try clear hcz22_3
                try clear hcz25_0
                try clear hcz25_1
                try clear hcz25_2
                try clear hcz25_3
                try clear hcz27_0
                try clear hcz27_1
                try clear hcz27_2
                try clear hcz27_3
                try clear hcz33_0
                try clear hcz33_1
                try clear hcz33_2
                try clear hcz33_3
                try clear hcz37_0
                try clear hcz37_1
                try clear hcz37_2
                try clear hcz37_3
                try clear hcz40_0
                try clear hcz40_1
                try clear hcz40_2
                try clear hcz40_3
                try clear hcz44_0
                try clear hcz44_1
                try clear hcz44_2
                try clear hcz44_3
                try clear hcz56_0
                try clear hcz56_1
                try clear hcz56_2
                try clear hcz56_3
                try clear hcz60_0
                try clear hcz60_1
                try clear hcz60_2
                try clear hcz60_3
                try clear hcz62_0
                try clear hcz62_1
                try clear hcz62_2
                try clear hcz62_3
                try clear hcz69_0
                try clear hcz69_1
                try clear hcz69_2
                try clear hcz69_3
                try clear hcz70_0
                try clear hcz70_1
                try clear hcz70_2
                try clear hcz70_3
                try clear hcz71_0
                try clear hcz71_1
                try clear hcz71_2
                try clear hcz71_3
                try clear hcz74_0
                try clear hcz74_1
                try clear hcz74_2
                try clear hcz74_3
                try clear hcz76_0
                try clear hcz76_1
                try clear hcz76_2
                try clear hcz76_3
                try clear hfz19_0
                try clear hfz19_1
                try clear hfz19_2
                try clear hfz19_3
                try clear hfz22_0
                try clear hfz22_1
                try clear hfz22_2
                try clear hfz22_3
                try clear hfz25_0
                try clear hfz25_1
                try clear hfz25_2
                try clear hfz25_3
                try clear hfz27_0
                try clear hfz27_1
                try clear hfz27_2
                try clear hfz27_3
                try clear hfz33_0
                try clear hfz33_1
                try clear hfz33_2
                try clear hfz33_3
                try clear hfz37_0
                try clear hfz37_1
                try clear hfz37_2
                try clear hfz37_3
                try clear hfz40_0
                try clear hfz40_1
                try clear hfz40_2
                try clear hfz40_3
                try clear hfz44_0
                try clear hfz44_1
                try clear hfz44_2
                try clear hfz44_3
                try clear hfz56_0
                try clear hfz56_1
                try clear hfz56_2
                try clear hfz56_3
                try clear hfz60_0
                try clear hfz60_1
                try clear hfz60_2
                try clear hfz60_3
                try clear hfz62_0
                try clear hfz62_1
                try clear hfz62_2
                try clear hfz62_3
                try clear hfz69_0
                try clear hfz69_1
                try clear hfz69_2
                try clear hfz69_3
                try clear hfz70_0
                try clear hfz70_1
                try clear hfz70_2
                try clear hfz70_3
                try clear hfz71_0
                try clear hfz71_1
                try clear hfz71_2
                try clear hfz71_3
                try clear hfz74_0
                try clear hfz74_1
                try clear hfz74_2
                try clear hfz74_3
                try clear hfz76_0
                try clear hfz76_1
                try clear hfz76_2
                try clear hfz76_3
                try clear hx259_0
                try clear hx263_0
                try clear hx265_0
                try clear hx266_0
                try clear p2
                try clear p25
                try clear p259
                try clear p26
                try clear p263
                try clear p265
                try clear p266
                try clear p6
                try clear p64
                try clear q2
                try clear q25
                try clear q259
                try clear q26
                try clear q263
                try clear q265
                try clear q266
                obtain ⟨x30_6, x31_6, rfl, rfl, HA, HK6, HO_27, HO_246003, BK245, HB⟩ := hrel
                cases gk with
                | zero => exact absurd HA.out (by simp [r7_LevelWalks.l2])
                | succ k6 =>
                 (have H := HA.out);(clear HA);(simp only [r7_LevelWalks.l2] at H)
                 by_cases c78 : x31_6 < (t269.length : Int)
                 ·(rw [if_pos c78] at H);(have c78b0 : decide (x31_6 < (t269.length : Int)) = true := decide_eq_true c78);(clear c78)
                  by_cases c79 : 0 ≤ x31_6
                  ·(rw [if_pos c79] at H);(have c79b0 : decide (0 ≤ x31_6) = true := decide_eq_true c79);(clear c79);(replace H := Option.bind_eq_some_iff.mp H);(obtain ⟨⟨t274, t275⟩, A800, H⟩ := H);(replace H : (if t275 = x20_5 then (r7_LevelWalks.l2 k6 t253 x20_5 t269 t272 x29_5 t274 (wrap64 (x31_6 + 1)) t239 t240 t241 t242) else (r7_LevelWalks.l2 k6 t253 x20_5 t269 t272 x29_5 x30_6 (wrap64 (x31_6 + 1)) t239 t240 t241 t242)) = some r := H);(have A80 := Aside0.mk A800);(clear A800)
                   by_cases c81 : t275 = x20_5
                   ·(rw [if_pos c81] at H);(have c81b0 : (t275 == x20_5) = true := beq_iff_eq.mpr c81);(have c81b1 : (t275 != x20_5) = false := bne_eq_false_iff_eq.mpr c81);(clear c81);(have H' := Aside0.mk H);(clear H);(obtain ⟨Ao82, co82, eo82⟩ := Kd.R_slice HO_27.out);(subst eo82)
                    try go_wp2
                    (have n0_ := Aside0.mk (Kd.R_drew HO_27.out));(have n1_ := Aside0.mk (Kd.R_drew HO_246003.out));(have n2_ := Aside0.mk (blk_drew BK245.out));(have n3_ := Aside0.mk (below_drew1 HB.out));(clear HO_27);(clear HO_246003);(clear BK245);(clear HB);(have HO_27 := n0_);(have HO_246003 := n1_);(have BK245 := n2_);(have HB := n3_);(clear n0_ n1_ n2_ n3_);(have p273 : 0 ≤ (x31_6 : Int) := of_decide_eq_true (by first | (with_reducible assumption) | assumption));(have q273 : x31_6 < (t269.length : Int) := of_decide_eq_true (by first | (with_reducible assumption) | assumption));(obtain ⟨ad273, e273, hx273_0⟩ := Kd.at_int (Kd.R_reads' HO_27.out).2.2 x31_6 p273 q273);(cases e273);(replace p273 := eq_true p273);(replace q273 := eq_true q273);(refine start_ (n := 11) (S := fun w' => w'.cell? ⟨gb245, 0, none⟩ = some (.int .i64 t239) ∧ w'.cell? ⟨gb245, 1, none⟩ = some (.int .i64 t240) ∧ w'.cell? ⟨gb245, 2, none⟩ = some (.int .i64 t241) ∧ w'.cell? ⟨gb245, 3, none⟩ = some (.slice Ao20 t242.length co20) ∧ w'.cell? (ad273.add (x31_6).toNat) = some (.int .i64 (rd t269 x31_6))) (ds := []) #[false, false, false, false, false, false, false, false, false, false, false] (by kernel_rfl) rfl rfl ⟨(blk_cell BK245.out 0).trans rfl, (blk_cell BK245.out 1).trans rfl, (blk_cell BK245.out 2).trans rfl, (blk_cell BK245.out 3).trans rfl, hx273_0⟩ (fun hHeld => ?_); refine with_tabW r7_LevelWalks.tab34 r7_LevelWalks.bits34 (fun HT_ HW_ => ?_));(generalize wr.drew = w83 at HO_27 HO_246003 BK245 HB hx273_0 hHeld ⊢);(refine pure_ (i := 1) (N := some 161) (v := ?_) (a' := ?_) #[false, true, false, false, false, false, false, false, false, false, false] rfl rfl (any_of HT_.out (by kernel_rfl)) (fun _ _ _ h => h) (Or.inl ⟨by rfl, ?_⟩) ?_ ?_)
                    rotate_left
                    ·intro w'
                     go_simp
                     with_reducible rfl
                    rotate_left
                    ·simp only [Act.put, List.setIfInBounds_toArray, List.set_cons_zero, List.set_cons_succ, i64_w, i32_w]
                     rfl
                    refine pure_ (i := 2) (N := some 162) (v := ?_) (a' := ?_) #[false, true, true, false, false, false, false, false, false, false, false] rfl rfl (any_of HT_.out (by kernel_rfl)) (fun _ _ _ h => h) (Or.inl ⟨by rfl, ?_⟩) ?_ ?_
                    rotate_left
                    ·intro w'
                     go_simp
                     with_reducible rfl
                    rotate_left
                    ·simp only [Act.put, List.setIfInBounds_toArray, List.set_cons_zero, List.set_cons_succ, i64_w, i32_w]
                     rfl
                    refine pure_ (i := 3) (N := some 163) (v := ?_) (a' := ?_) #[false, true, true, true, false, false, false, false, false, false, false] rfl rfl (any_of HT_.out (by kernel_rfl)) (fun _ _ _ h => h) (Or.inl ⟨by rfl, ?_⟩) ?_ ?_
                    rotate_left
                    ·intro w'
                     go_simp
                     with_reducible rfl
                    rotate_left
                    ·simp only [Act.put, List.setIfInBounds_toArray, List.set_cons_zero, List.set_cons_succ, i64_w, i32_w]
                     rfl
                    refine take_ (i := 0) (N := some 160) (v := ?_) (a' := ?_) #[true, true, true, true, false, false, false, false, false, false, false] rfl rfl (take_ofW HT_.out HW_.out (by kernel_rfl)) (fun _ _ _ h => h) (Or.inl ⟨by rfl, ?_⟩) hHeld ?_ ?_
                    rotate_left
                    ·rintro w' ⟨s0, s1, s2, s3, s4⟩
                     go_simp
                     with_reducible rfl
                    rotate_left
                    ·simp only [Act.put, List.setIfInBounds_toArray, List.set_cons_zero, List.set_cons_succ, i64_w, i32_w]
                     rfl
                    refine take_ (i := 4) (N := some 164) (v := ?_) (a' := ?_) #[true, true, true, true, true, false, false, false, false, false, false] rfl rfl (take_ofW HT_.out HW_.out (by kernel_rfl)) (fun _ _ _ h => h) (Or.inl ⟨by rfl, ?_⟩) hHeld ?_ ?_
                    rotate_left
                    ·rintro w' ⟨s0, s1, s2, s3, s4⟩
                     go_simp
                     with_reducible rfl
                    rotate_left
                    ·simp only [Act.put, List.setIfInBounds_toArray, List.set_cons_zero, List.set_cons_succ, i64_w, i32_w]
                     rfl
                    (refine one_ (i := 5) (N := some 165) #[true, true, true, true, true, true, false, false, false, false, false] rfl rfl (one_of HT_.out (by kernel_rfl)) (by decide) (fun K hK => ?_));(refine goes_ Try.func21 (by kernel_rfl) rfl #[.agg #[.int .i64 t239, .int .i64 t240, .int .i64 t241, .slice Ao20 t242.length co20], .int .i64 (rd t269 x31_6)] (by rfl) rfl rfl (by (try simp only [List.map_toArray, List.map_cons, List.map_nil]); first | done | rfl | (simp only [List.length_drop, List.length_take]; rfl)) ?_)
                    with_reducible refine (residual_Ends.calls k6 t239 t240 t241 _ _ t242 (rd t269 x31_6) t274 t275 _ ?side1 ?side2 A80.out).mono ?_
                    (case side1 => repeat (first | exact (Kd.R_reads' HO_246003.out).2.2 | (with_reducible refine Kd.C_alloc ?_ _) | (with_reducible refine Kd.C_drewN ?_ _) | (with_reducible refine Kd.C_drew ?_)))
                    (case side2 => exact (Kd.R_reads' HO_246003.out).2.1)
                    (rintro e w84 ⟨rfl, hb⟩);(have HS4_ := (hb.cell (World.block_lt_of_cell? _ _ (hHeld.2.2.2.2))).trans (hHeld.2.2.2.2));(refine ⟨_, rfl, ?_⟩);(have n0_ := Aside0.mk (Kd.R_below (by (with_reducible repeat first | apply Kd.R_alloc | apply Kd.R_drewN | apply Kd.R_drew); exact HO_27.out) hb));(have n1_ := Aside0.mk (Kd.R_below (by (with_reducible repeat first | apply Kd.R_alloc | apply Kd.R_drewN | apply Kd.R_drew); exact HO_246003.out) hb));(have n2_ := Aside0.mk (blk_below (g := gb245) (o := .cells #[.int .i64 t239, .int .i64 t240, .int .i64 t241, .slice Ao20 t242.length co20] 27 (0, 0)) (by (with_reducible repeat first | refine blk_drewN ?_ _ | refine blk_drew ?_ | refine blk_alloc ?_ _); exact BK245.out) hb));(have n3_ := Aside0.mk (below_step (by repeat (first | (with_reducible first | exact HB.out | apply below_alloc | apply pw_below_drewN | apply below_drew1 | refine below_set ?_ GE245.out) | exact HB.out)) hb));(clear HO_27);(clear HO_246003);(clear BK245);(clear HB);(have HO_27 := n0_);(have HO_246003 := n1_);(have BK245 := n2_);(have HB := n3_);(clear n0_ n1_ n2_ n3_);((try clear hb));((try clear hb2));((try clear hk));((try clear hi));(refine hK.out _ _ ⟨(blk_cell BK245.out 0).trans rfl, (blk_cell BK245.out 1).trans rfl, (blk_cell BK245.out 2).trans rfl, (blk_cell BK245.out 3).trans rfl, HS4_⟩ (fun hHeld => ?_));(clear hK K);(refine norm_ (a' := ?_) ?_ ?_)
                    rotate_left
                    ·show Act.put _ (some 165) _ = _
                     simp only [Act.put, List.setIfInBounds_toArray, List.set_cons_zero, List.set_cons_succ, i64_w, i32_w]
                     rfl
                    refine pure_ (i := 6) (N := some 159) (v := ?_) (a' := ?_) #[true, true, true, true, true, true, true, false, false, false, false] rfl rfl (any_of HT_.out (by kernel_rfl)) (fun _ _ _ h => h) (Or.inl ⟨by rfl, ?_⟩) ?_ ?_
                    rotate_left
                    ·intro w'
                     go_simp
                     with_reducible rfl
                    rotate_left
                    ·simp only [Act.put, List.setIfInBounds_toArray, List.set_cons_zero, List.set_cons_succ, i64_w, i32_w]
                     rfl
                    refine pure_ (i := 7) (N := some 166) (v := ?_) (a' := ?_) #[true, true, true, true, true, true, true, true, false, false, false] rfl rfl (any_of HT_.out (by kernel_rfl)) (fun _ _ _ h => h) (Or.inl ⟨by rfl, ?_⟩) ?_ ?_
                    rotate_left
                    ·intro w'
                     go_simp
                     with_reducible rfl
                    rotate_left
                    ·simp only [Act.put, List.setIfInBounds_toArray, List.set_cons_zero, List.set_cons_succ, i64_w, i32_w]
                     rfl
                    refine pure_ (i := 8) (N := some 167) (v := ?_) (a' := ?_) #[true, true, true, true, true, true, true, true, true, false, false] rfl rfl (any_of HT_.out (by kernel_rfl)) (fun _ _ _ h => h) (Or.inl ⟨by rfl, ?_⟩) ?_ ?_
                    rotate_left
                    ·intro w'
                     go_simp
                     with_reducible rfl
                    rotate_left
                    ·simp only [Act.put, List.setIfInBounds_toArray, List.set_cons_zero, List.set_cons_succ, i64_w, i32_w]
                     rfl
                    refine pure_ (i := 9) (N := some 32) (v := ?_) (a' := ?_) #[true, true, true, true, true, true, true, true, true, true, false] rfl rfl (any_of HT_.out (by kernel_rfl)) (fun _ _ _ h => h) (Or.inl ⟨by rfl, ?_⟩) ?_ ?_
                    rotate_left
                    ·intro w'
                     go_simp
                     with_reducible rfl
                    rotate_left
                    ·simp only [Act.put, List.setIfInBounds_toArray, List.set_cons_zero, List.set_cons_succ, i64_w, i32_w]
                     rfl
                    refine pure_ (i := 10) (N := some 33) (v := ?_) (a' := ?_) #[true, true, true, true, true, true, true, true, true, true, true] rfl rfl (any_of HT_.out (by kernel_rfl)) (fun _ _ _ h => h) (Or.inl ⟨by rfl, ?_⟩) ?_ ?_
                    rotate_left
                    ·intro w'
                     go_simp
                     with_reducible rfl
                    rotate_left
                    ·simp only [Act.put, List.setIfInBounds_toArray, List.set_cons_zero, List.set_cons_succ, i64_w, i32_w]
                     rfl
                    refine done_ (done_of HT_.out (by kernel_rfl)) ?_
                    try go_wp2
                    go_roundg k6
                    case measure => have := HJ6.out; have := HJ15.out; have := HJ35.out; have := HJ65.out; have := HK5.out; have := HK6.out; omega
                    case rel => exact ⟨(t274), (wrap64 (x31_6 + 1)), (by first | rfl | (simp; done) | (simp [*]; done)), (by first | rfl | (simp; done) | (simp [*]; done)), H', ⟨by have := HJ6.out; have := HJ15.out; have := HJ35.out; have := HJ65.out; have := HK5.out; have := HK6.out; omega⟩, ⟨by (with_reducible repeat first | apply Kd.R_alloc | apply Kd.R_drewN | apply Kd.R_drew); exact HO_27.out⟩, ⟨by (with_reducible repeat first | apply Kd.R_alloc | apply Kd.R_drewN | apply Kd.R_drew); exact HO_246003.out⟩, ⟨by (with_reducible repeat first | refine blk_drewN ?_ _ | refine blk_drew ?_ | refine blk_alloc ?_ _); exact BK245.out⟩, ⟨by repeat (first | (with_reducible first | exact HB.out | apply below_alloc | apply pw_below_drewN | apply below_drew1 | refine below_set ?_ GE245.out) | exact HB.out)⟩⟩
                   ·(rw [if_neg c81] at H);(have c81b0 : (t275 == x20_5) = false := beq_eq_false_iff_ne.mpr c81);(have c81b1 : (t275 != x20_5) = true := bne_iff_ne.mpr c81);(have H' := Aside0.mk H);(clear H);(obtain ⟨Ao85, co85, eo85⟩ := Kd.R_slice HO_27.out);(subst eo85)
                    try go_wp2
                    (have n0_ := Aside0.mk (Kd.R_drew HO_27.out));(have n1_ := Aside0.mk (Kd.R_drew HO_246003.out));(have n2_ := Aside0.mk (blk_drew BK245.out));(have n3_ := Aside0.mk (below_drew1 HB.out));(clear HO_27);(clear HO_246003);(clear BK245);(clear HB);(have HO_27 := n0_);(have HO_246003 := n1_);(have BK245 := n2_);(have HB := n3_);(clear n0_ n1_ n2_ n3_);(have p273 : 0 ≤ (x31_6 : Int) := of_decide_eq_true (by first | (with_reducible assumption) | assumption));(have q273 : x31_6 < (t269.length : Int) := of_decide_eq_true (by first | (with_reducible assumption) | assumption));(obtain ⟨ad273, e273, hx273_0⟩ := Kd.at_int (Kd.R_reads' HO_27.out).2.2 x31_6 p273 q273);(cases e273);(replace p273 := eq_true p273);(replace q273 := eq_true q273);(refine start_ (n := 11) (S := fun w' => w'.cell? ⟨gb245, 0, none⟩ = some (.int .i64 t239) ∧ w'.cell? ⟨gb245, 1, none⟩ = some (.int .i64 t240) ∧ w'.cell? ⟨gb245, 2, none⟩ = some (.int .i64 t241) ∧ w'.cell? ⟨gb245, 3, none⟩ = some (.slice Ao20 t242.length co20) ∧ w'.cell? (ad273.add (x31_6).toNat) = some (.int .i64 (rd t269 x31_6))) (ds := []) #[false, false, false, false, false, false, false, false, false, false, false] (by kernel_rfl) rfl rfl ⟨(blk_cell BK245.out 0).trans rfl, (blk_cell BK245.out 1).trans rfl, (blk_cell BK245.out 2).trans rfl, (blk_cell BK245.out 3).trans rfl, hx273_0⟩ (fun hHeld => ?_); refine with_tabW r7_LevelWalks.tab34 r7_LevelWalks.bits34 (fun HT_ HW_ => ?_));(generalize wr.drew = w86 at HO_27 HO_246003 BK245 HB hx273_0 hHeld ⊢);(refine pure_ (i := 1) (N := some 161) (v := ?_) (a' := ?_) #[false, true, false, false, false, false, false, false, false, false, false] rfl rfl (any_of HT_.out (by kernel_rfl)) (fun _ _ _ h => h) (Or.inl ⟨by rfl, ?_⟩) ?_ ?_)
                    rotate_left
                    ·intro w'
                     go_simp
                     with_reducible rfl
                    rotate_left
                    ·simp only [Act.put, List.setIfInBounds_toArray, List.set_cons_zero, List.set_cons_succ, i64_w, i32_w]
                     rfl
                    refine pure_ (i := 2) (N := some 162) (v := ?_) (a' := ?_) #[false, true, true, false, false, false, false, false, false, false, false] rfl rfl (any_of HT_.out (by kernel_rfl)) (fun _ _ _ h => h) (Or.inl ⟨by rfl, ?_⟩) ?_ ?_
                    rotate_left
                    ·intro w'
                     go_simp
                     with_reducible rfl
                    rotate_left
                    ·simp only [Act.put, List.setIfInBounds_toArray, List.set_cons_zero, List.set_cons_succ, i64_w, i32_w]
                     rfl
                    refine pure_ (i := 3) (N := some 163) (v := ?_) (a' := ?_) #[false, true, true, true, false, false, false, false, false, false, false] rfl rfl (any_of HT_.out (by kernel_rfl)) (fun _ _ _ h => h) (Or.inl ⟨by rfl, ?_⟩) ?_ ?_
                    rotate_left
                    ·intro w'
                     go_simp
                     with_reducible rfl
                    rotate_left
                    ·simp only [Act.put, List.setIfInBounds_toArray, List.set_cons_zero, List.set_cons_succ, i64_w, i32_w]
                     rfl
                    refine take_ (i := 0) (N := some 160) (v := ?_) (a' := ?_) #[true, true, true, true, false, false, false, false, false, false, false] rfl rfl (take_ofW HT_.out HW_.out (by kernel_rfl)) (fun _ _ _ h => h) (Or.inl ⟨by rfl, ?_⟩) hHeld ?_ ?_
                    rotate_left
                    ·rintro w' ⟨s0, s1, s2, s3, s4⟩
                     go_simp
                     with_reducible rfl
                    rotate_left
                    ·simp only [Act.put, List.setIfInBounds_toArray, List.set_cons_zero, List.set_cons_succ, i64_w, i32_w]
                     rfl
                    refine take_ (i := 4) (N := some 164) (v := ?_) (a' := ?_) #[true, true, true, true, true, false, false, false, false, false, false] rfl rfl (take_ofW HT_.out HW_.out (by kernel_rfl)) (fun _ _ _ h => h) (Or.inl ⟨by rfl, ?_⟩) hHeld ?_ ?_
                    rotate_left
                    ·rintro w' ⟨s0, s1, s2, s3, s4⟩
                     go_simp
                     with_reducible rfl
                    rotate_left
                    ·simp only [Act.put, List.setIfInBounds_toArray, List.set_cons_zero, List.set_cons_succ, i64_w, i32_w]
                     rfl
                    (refine one_ (i := 5) (N := some 165) #[true, true, true, true, true, true, false, false, false, false, false] rfl rfl (one_of HT_.out (by kernel_rfl)) (by decide) (fun K hK => ?_));(refine goes_ Try.func21 (by kernel_rfl) rfl #[.agg #[.int .i64 t239, .int .i64 t240, .int .i64 t241, .slice Ao20 t242.length co20], .int .i64 (rd t269 x31_6)] (by rfl) rfl rfl (by (try simp only [List.map_toArray, List.map_cons, List.map_nil]); first | done | rfl | (simp only [List.length_drop, List.length_take]; rfl)) ?_)
                    with_reducible refine (residual_Ends.calls k6 t239 t240 t241 _ _ t242 (rd t269 x31_6) t274 t275 _ ?side1 ?side2 A80.out).mono ?_
                    (case side1 => repeat (first | exact (Kd.R_reads' HO_246003.out).2.2 | (with_reducible refine Kd.C_alloc ?_ _) | (with_reducible refine Kd.C_drewN ?_ _) | (with_reducible refine Kd.C_drew ?_)))
                    (case side2 => exact (Kd.R_reads' HO_246003.out).2.1)
                    (rintro e w87 ⟨rfl, hb⟩);(have HS4_ := (hb.cell (World.block_lt_of_cell? _ _ (hHeld.2.2.2.2))).trans (hHeld.2.2.2.2));(refine ⟨_, rfl, ?_⟩);(have n0_ := Aside0.mk (Kd.R_below (by (with_reducible repeat first | apply Kd.R_alloc | apply Kd.R_drewN | apply Kd.R_drew); exact HO_27.out) hb));(have n1_ := Aside0.mk (Kd.R_below (by (with_reducible repeat first | apply Kd.R_alloc | apply Kd.R_drewN | apply Kd.R_drew); exact HO_246003.out) hb));(have n2_ := Aside0.mk (blk_below (g := gb245) (o := .cells #[.int .i64 t239, .int .i64 t240, .int .i64 t241, .slice Ao20 t242.length co20] 27 (0, 0)) (by (with_reducible repeat first | refine blk_drewN ?_ _ | refine blk_drew ?_ | refine blk_alloc ?_ _); exact BK245.out) hb));(have n3_ := Aside0.mk (below_step (by repeat (first | (with_reducible first | exact HB.out | apply below_alloc | apply pw_below_drewN | apply below_drew1 | refine below_set ?_ GE245.out) | exact HB.out)) hb));(clear HO_27);(clear HO_246003);(clear BK245);(clear HB);(have HO_27 := n0_);(have HO_246003 := n1_);(have BK245 := n2_);(have HB := n3_);(clear n0_ n1_ n2_ n3_);((try clear hb));((try clear hb2));((try clear hk));((try clear hi));(refine hK.out _ _ ⟨(blk_cell BK245.out 0).trans rfl, (blk_cell BK245.out 1).trans rfl, (blk_cell BK245.out 2).trans rfl, (blk_cell BK245.out 3).trans rfl, HS4_⟩ (fun hHeld => ?_));(clear hK K);(refine norm_ (a' := ?_) ?_ ?_)
                    rotate_left
                    ·show Act.put _ (some 165) _ = _
                     simp only [Act.put, List.setIfInBounds_toArray, List.set_cons_zero, List.set_cons_succ, i64_w, i32_w]
                     rfl
                    refine pure_ (i := 6) (N := some 159) (v := ?_) (a' := ?_) #[true, true, true, true, true, true, true, false, false, false, false] rfl rfl (any_of HT_.out (by kernel_rfl)) (fun _ _ _ h => h) (Or.inl ⟨by rfl, ?_⟩) ?_ ?_
                    rotate_left
                    ·intro w'
                     go_simp
                     with_reducible rfl
                    rotate_left
                    ·simp only [Act.put, List.setIfInBounds_toArray, List.set_cons_zero, List.set_cons_succ, i64_w, i32_w]
                     rfl
                    refine pure_ (i := 7) (N := some 166) (v := ?_) (a' := ?_) #[true, true, true, true, true, true, true, true, false, false, false] rfl rfl (any_of HT_.out (by kernel_rfl)) (fun _ _ _ h => h) (Or.inl ⟨by rfl, ?_⟩) ?_ ?_
                    rotate_left
                    ·intro w'
                     go_simp
                     with_reducible rfl
                    rotate_left
                    ·simp only [Act.put, List.setIfInBounds_toArray, List.set_cons_zero, List.set_cons_succ, i64_w, i32_w]
                     rfl
                    refine pure_ (i := 8) (N := some 167) (v := ?_) (a' := ?_) #[true, true, true, true, true, true, true, true, true, false, false] rfl rfl (any_of HT_.out (by kernel_rfl)) (fun _ _ _ h => h) (Or.inl ⟨by rfl, ?_⟩) ?_ ?_
                    rotate_left
                    ·intro w'
                     go_simp
                     with_reducible rfl
                    rotate_left
                    ·simp only [Act.put, List.setIfInBounds_toArray, List.set_cons_zero, List.set_cons_succ, i64_w, i32_w]
                     rfl
                    refine pure_ (i := 9) (N := some 32) (v := ?_) (a' := ?_) #[true, true, true, true, true, true, true, true, true, true, false] rfl rfl (any_of HT_.out (by kernel_rfl)) (fun _ _ _ h => h) (Or.inl ⟨by rfl, ?_⟩) ?_ ?_
                    rotate_left
                    ·intro w'
                     go_simp
                     with_reducible rfl
                    rotate_left
                    ·simp only [Act.put, List.setIfInBounds_toArray, List.set_cons_zero, List.set_cons_succ, i64_w, i32_w]
                     rfl
                    refine pure_ (i := 10) (N := some 33) (v := ?_) (a' := ?_) #[true, true, true, true, true, true, true, true, true, true, true] rfl rfl (any_of HT_.out (by kernel_rfl)) (fun _ _ _ h => h) (Or.inl ⟨by rfl, ?_⟩) ?_ ?_
                    rotate_left
                    ·intro w'
                     go_simp
                     with_reducible rfl
                    rotate_left
                    ·simp only [Act.put, List.setIfInBounds_toArray, List.set_cons_zero, List.set_cons_succ, i64_w, i32_w]
                     rfl
                    refine done_ (done_of HT_.out (by kernel_rfl)) ?_
                    try go_wp2
                    go_roundg k6
                    case measure => have := HJ6.out; have := HJ15.out; have := HJ35.out; have := HJ65.out; have := HK5.out; have := HK6.out; omega
                    case rel => exact ⟨(x30_6), (wrap64 (x31_6 + 1)), (by first | rfl | (simp; done) | (simp [*]; done)), (by first | rfl | (simp; done) | (simp [*]; done)), H', ⟨by have := HJ6.out; have := HJ15.out; have := HJ35.out; have := HJ65.out; have := HK5.out; have := HK6.out; omega⟩, ⟨by (with_reducible repeat first | apply Kd.R_alloc | apply Kd.R_drewN | apply Kd.R_drew); exact HO_27.out⟩, ⟨by (with_reducible repeat first | apply Kd.R_alloc | apply Kd.R_drewN | apply Kd.R_drew); exact HO_246003.out⟩, ⟨by (with_reducible repeat first | refine blk_drewN ?_ _ | refine blk_drew ?_ | refine blk_alloc ?_ _); exact BK245.out⟩, ⟨by repeat (first | (with_reducible first | exact HB.out | apply below_alloc | apply pw_below_drewN | apply below_drew1 | refine below_set ?_ GE245.out) | exact HB.out)⟩⟩
                  ·(rw [if_neg c79] at H);(exact absurd H (by simp))
                 ·(rw [if_neg c78] at H);(have c78b0 : decide (x31_6 < (t269.length : Int)) = false := decide_eq_false c78);(clear c78);(have H' := Aside0.mk H);(clear H);(obtain ⟨Ao88, co88, eo88⟩ := Kd.R_slice HO_27.out);(subst eo88)
                  go_wp2
                  go_roundg k6
                  case measure => have := HJ6.out; have := HJ15.out; have := HJ35.out; have := HJ65.out; have := HK5.out; have := HK6.out; omega
                  case rel => exact ⟨(x30_6), (wrap64 (x29_5 + 1)), (by first | rfl | (simp; done) | (simp [*]; done)), (by first | rfl | (simp; done) | (simp [*]; done)), H', ⟨by have := HJ6.out; have := HJ15.out; have := HJ35.out; have := HJ65.out; have := HK5.out; have := HK6.out; omega⟩, ⟨by (with_reducible repeat first | apply Kd.R_alloc | apply Kd.R_drewN | apply Kd.R_drew); exact HO_27.out⟩, ⟨by (with_reducible repeat first | apply Kd.R_alloc | apply Kd.R_drewN | apply Kd.R_drew); exact HO_246003.out⟩, ⟨by (with_reducible repeat first | refine blk_drewN ?_ _ | refine blk_drew ?_ | refine blk_alloc ?_ _); exact BK245.out⟩, ⟨by repeat (first | (with_reducible first | exact HB.out | apply below_alloc | apply pw_below_drewN | apply below_drew1 | refine below_set ?_ GE245.out) | exact HB.out)⟩⟩
              ·(rw [if_neg c77] at H);(have c77b0 : decide (x29_5 < t253) = false := decide_eq_false c77);(clear c77)
               by_cases c89 : t272 = 0
               ·(rw [if_pos c89] at H);(have c89b0 : (t272 == 0) = true := beq_iff_eq.mpr c89);(have c89b1 : (t272 != 0) = false := bne_eq_false_iff_eq.mpr c89);(clear c89)
                by_cases c90 : t253 < 0
                ·(rw [if_pos c90] at H);(have c90b0 : decide (t253 < 0) = true := decide_eq_true c90);(clear c90);(obtain rfl := Option.some.inj H)
                 go_wp2
                 go_ret
                 exact ⟨by first | rfl | (simp [errW_none, errW_some] <;> rfl) | (simp [*, errW_none, errW_some] <;> rfl), by repeat (first | (with_reducible first | exact HB.out | apply below_alloc | apply pw_below_drewN | apply below_drew1 | refine below_set ?_ GE245.out) | exact HB.out)⟩
                ·(rw [if_neg c90] at H);(have c90b0 : decide (t253 < 0) = false := decide_eq_false c90);(clear c90);(obtain rfl := Option.some.inj H);(have hcz91_0 : wr.cell? ⟨gb245, 0, none⟩ = some (.int .i64 t239) := (blk_cell BK245.out 0).trans rfl);(have hcz91_1 : wr.cell? ⟨gb245, 1, none⟩ = some (.int .i64 t240) := (blk_cell BK245.out 1).trans rfl);(have hcz91_2 : wr.cell? ⟨gb245, 2, none⟩ = some (.int .i64 t241) := (blk_cell BK245.out 2).trans rfl);(have hcz91_3 : wr.cell? ⟨gb245, 3, none⟩ = some (.slice Ao20 t242.length co20) := (blk_cell BK245.out 3).trans rfl);(have hfz91_0 := blk_frozen BK245.out 0);(have hfz91_1 := blk_frozen BK245.out 1);(have hfz91_2 := blk_frozen BK245.out 2);(have hfz91_3 := blk_frozen BK245.out 3)
                 go_wp2
                 go_ret
                 exact ⟨by first | rfl | (simp [errW_none, errW_some] <;> rfl) | (simp [*, errW_none, errW_some] <;> rfl), by repeat (first | (with_reducible first | exact HB.out | apply below_alloc | apply pw_below_drewN | apply below_drew1 | refine below_set ?_ GE245.out) | exact HB.out)⟩
               ·(rw [if_neg c89] at H);(have c89b0 : (t272 == 0) = false := beq_eq_false_iff_ne.mpr c89);(have c89b1 : (t272 != 0) = true := bne_iff_ne.mpr c89);(exact absurd ((Option.some.inj H).trans hrT_.out) (by simp))
/-- THE ONE PURE STATEMENT of r7_LevelWalks. -/
def r7_LevelWalks.Pure : Prop := ∀ (a0 : Int) (a1 : Int) (l2 : List (S72)) (l3 : List Int) (l4 : List Int), (Lit.int .i64 a0).wf = true → (Lit.int .i64 a1).wf = true → l2.length ≤ maxLen → (∀ x ∈ l2, (Lit.int .i64 x.f0).wf = true ∧ (Lit.int .i64 x.f1).wf = true ∧ (Lit.int .i64 x.f2).wf = true) → l3.length ≤ maxLen → l3.length * 8 ≤ 140737488351232 → (∀ x ∈ l3, (Lit.int .i64 x).wf = true) → l4.length ≤ maxLen → l4.length * 8 ≤ 140737488351232 → (∀ x ∈ l4, (Lit.int .i64 x).wf = true) → ∃ k, r7_LevelWalks.f k a0 a1 l2 l3 l4 = some true
theorem r7_LevelWalks.walk (P : r7_LevelWalks.Pure) (a0 : Int) (a1 : Int) (A2 : Option Addr) (c2 : Nat) (l2 : List (S72)) (A3 : Option Addr) (c3 : Nat) (l3 : List Int) (A4 : Option Addr) (c4 : Nat) (l4 : List Int) (w : World) (w0 : (Lit.int .i64 a0).wf = true) (w1 : (Lit.int .i64 a1).wf = true) (hr2 : Kd.C k72 w A2 l2.length l2) (hc2 : l2.length ≤ c2) (hm2 : l2.length ≤ maxLen) (hw2 : (∀ x ∈ l2, (Lit.int .i64 x.f0).wf = true ∧ (Lit.int .i64 x.f1).wf = true ∧ (Lit.int .i64 x.f2).wf = true)) (hr3 : Kd.C (Kd.int .i64) w A3 l3.length l3) (hc3 : l3.length ≤ c3) (hm3 : l3.length ≤ maxLen) (y3 : l3.length * 8 ≤ 140737488351232) (hw3 : (∀ x ∈ l3, (Lit.int .i64 x).wf = true)) (hr4 : Kd.C (Kd.int .i64) w A4 l4.length l4) (hc4 : l4.length ≤ c4) (hm4 : l4.length ≤ maxLen) (y4 : l4.length * 8 ≤ 140737488351232) (hw4 : (∀ x ∈ l4, (Lit.int .i64 x).wf = true)) :
  Calls Try.prog 10 #[.int .i64 a0, .int .i64 a1, .slice A2 l2.length c2, .slice A3 l3.length c3, .slice A4 l4.length c4] w fun e w' => e = .returned (.bool true) ∧ Below w.heap.size w w' := by
 obtain ⟨k, h⟩ := P a0 a1 l2 l3 l4 w0 w1 hm2 hw2 hm3 y3 hw3 hm4 y4 hw4
 refine (r7_LevelWalks.calls k a0 a1 _ _ l2 _ _ l3 _ _ l4 true w hr2 hc2 hr3 hc3 hr4 hc4 h ⟨rfl⟩).mono ?_
 rintro e w' ⟨rfl, hd⟩
 exact ⟨rfl, hd⟩
end Go.Proofs.Ytbppeffcikphcaa.PLevelWalks
