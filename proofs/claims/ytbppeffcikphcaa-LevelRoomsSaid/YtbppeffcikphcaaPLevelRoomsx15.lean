/- For the law LevelRooms, for every input: printed by a program (wip/myprint), contracts by hand where it says MANUAL. -/
-- slim
import Derived.Test.YtbppeffcikphcaaPLevelRoomsx0
import Derived.Test.YtbppeffcikphcaaPLevelRoomsx8
import Derived.Test.YtbppeffcikphcaaPLevelRoomsx9
import Derived.Test.YtbppeffcikphcaaPLevelRoomsx10
import Derived.Test.YtbppeffcikphcaaPLevelRoomsx11
import Derived.Test.YtbppeffcikphcaaPLevelRoomsx13
import Derived.Test.YtbppeffcikphcaaPLevelRoomsx14
namespace Go.Proofs.Ytbppeffcikphcaa.PLevelRooms
open Go.RowKit Go.Proofs.YtbppeffcikphcaaW.PrintWords Go.Proofs.YtbppeffcikphcaaW.PrintLast Go.Proofs.YtbppeffcikphcaaW.PrintMore
attribute [local go_sem] max2_int min2_int max_two min_two max_three min_three max_four min_four
set_option linter.unusedVariables false
set_option linter.unusedSimpArgs false
/-! ### racewaylaw7_LevelRooms: function 4 -/
mutual
def racewaylaw7_LevelRooms.j0 : Nat → List Int → List Int → List Int → Bool → Int → Int → Int → List (S49) → Option (Bool)
 | 0, _, _, _, _, _, _, _, _ => none
 | k + 1, x18, x20, x22, x93, x228000, x228001, x228002, x228003 => if x93 = true then (some false) else (racewaylaw7_LevelRooms.l0 k x18 x20 x22 1 x228000 x228001 x228002 x228003)
def racewaylaw7_LevelRooms.l0 : Nat → List Int → List Int → List Int → Int → Int → Int → Int → List (S49) → Option (Bool)
 | 0, _, _, _, _, _, _, _, _ => none
 | k + 1, x18, x20, x22, x26, x228000, x228001, x228002, x228003 => if x26 ≤ x228000 then (if 0 ≤ x26 then (if x26 < (x20.length : Int) then (if (rd x20 x26) ≥ 0 then (if x26 < (x18.length : Int) then (if (rd x18 x26) < 0 then (some false) else (if (rd x18 x26) > (rd x20 x26) then (some false) else (if x26 < (x22.length : Int) then (if (rd x22 x26) > 0 then (some false) else (if (rd x22 x26) = 0 then (if x26 = x228001 then (racewaylaw7_LevelRooms.l0 k x18 x20 x22 (wrap64 (x26 + 1)) x228000 x228001 x228002 x228003) else (some false)) else (if x26 = x228001 then (some false) else (racewaylaw7_LevelRooms.l0 k x18 x20 x22 (wrap64 (x26 + 1)) x228000 x228001 x228002 x228003)))) else (none)))) else (none)) else (if x26 < (x22.length : Int) then (if (rd x22 x26) > 0 then (some false) else (if (rd x22 x26) = 0 then (if x26 = x228001 then (racewaylaw7_LevelRooms.l0 k x18 x20 x22 (wrap64 (x26 + 1)) x228000 x228001 x228002 x228003) else (some false)) else (if x26 = x228001 then (some false) else (racewaylaw7_LevelRooms.l0 k x18 x20 x22 (wrap64 (x26 + 1)) x228000 x228001 x228002 x228003)))) else (none))) else (none)) else (none)) else (some true)
end
def racewaylaw7_LevelRooms.f (k : Nat) (a0 : Int) (a1 : Int) (l2 : List (S72)) (l3 : List Int) (a4 : Int) (a5 : Int) : Option (Bool) := (racewaylaw7_shown.f k).bind fun t220 => (if t220 = true then ((racewaylaw7_made.f k a0 a1 l2).bind fun bt221 => ((racewaylaw7_routed.f k bt221.1 bt221.2.1 bt221.2.2.1 bt221.2.2.2 l3).bind fun t228 => ((racewaylaw7_pick.f a4 30).bind fun t231 => ((racewaylaw7_pick.f a5 30).bind fun t232 => ((level_Levels.f k bt221.1 bt221.2.1 bt221.2.2.1 bt221.2.2.2 t228 (wrap64 (1 + (mn t231 t232)))).bind fun bt233 => ((level_Levels.f k bt221.1 bt221.2.1 bt221.2.2.1 bt221.2.2.2 t228 (wrap64 (1 + (mx t231 t232)))).bind fun bt237 => ((level_Levels.f k bt221.1 bt221.2.1 bt221.2.2.1 bt221.2.2.2 t228 4611686018427387904).bind fun bt241 => ((level_Leads.f k bt221.1 bt221.2.1 bt221.2.2.1 bt221.2.2.2 t228 4611686018427387904).bind fun bt245 => (if bt233.2 = 0 then (if bt237.2 = 0 then (if bt241.2 = 0 then (if bt245.2 = 0 then (racewaylaw7_LevelRooms.j0 k bt233.1 bt237.1 bt241.1 ((bt245.1.length : Int) != 0) bt221.1 bt221.2.1 bt221.2.2.1 bt221.2.2.2) else (racewaylaw7_LevelRooms.j0 k bt233.1 bt237.1 bt241.1 true bt221.1 bt221.2.1 bt221.2.2.1 bt221.2.2.2)) else (racewaylaw7_LevelRooms.j0 k bt233.1 bt237.1 bt241.1 true bt221.1 bt221.2.1 bt221.2.2.1 bt221.2.2.2)) else (racewaylaw7_LevelRooms.j0 k bt233.1 bt237.1 bt241.1 true bt221.1 bt221.2.1 bt221.2.2.1 bt221.2.2.2)) else (racewaylaw7_LevelRooms.j0 k bt233.1 bt237.1 bt241.1 true bt221.1 bt221.2.1 bt221.2.2.1 bt221.2.2.2)))))))))) else (some false))
theorem racewaylaw7_LevelRooms.mono_l : ∀ k, (∀ y0 y1 y2 y3 y4 y5 y6 y7, LeO (racewaylaw7_LevelRooms.j0 k y0 y1 y2 y3 y4 y5 y6 y7) (racewaylaw7_LevelRooms.j0 (k + 1) y0 y1 y2 y3 y4 y5 y6 y7)) ∧ (∀ y0 y1 y2 y3 y4 y5 y6 y7, LeO (racewaylaw7_LevelRooms.l0 k y0 y1 y2 y3 y4 y5 y6 y7) (racewaylaw7_LevelRooms.l0 (k + 1) y0 y1 y2 y3 y4 y5 y6 y7))
 | 0 => ⟨fun _ _ _ _ _ _ _ _ r h => by simp [racewaylaw7_LevelRooms.j0] at h, fun _ _ _ _ _ _ _ _ r h => by simp [racewaylaw7_LevelRooms.l0] at h⟩
 | k + 1 => by
  obtain ⟨ih0, ih1⟩ := racewaylaw7_LevelRooms.mono_l k
  refine ⟨?_, ?_⟩
  ·intro y0 y1 y2 y3 y4 y5 y6 y7
   unfold racewaylaw7_LevelRooms.j0
   repeat' first
   | (with_reducible exact ih0 _ _ _ _ _ _ _ _)
   | (with_reducible exact ih1 _ _ _ _ _ _ _ _)
   | (with_reducible exact level_Leads.mono _ _ _ _ _ _ _)
   | (with_reducible exact level_Levels.mono _ _ _ _ _ _ _)
   | (with_reducible exact racewaylaw7_made.mono _ _ _ _)
   | (with_reducible exact racewaylaw7_routed.mono _ _ _ _ _ _)
   | (with_reducible exact racewaylaw7_shown.mono _)
   | (with_reducible exact LeO.refl _)
   | (with_reducible exact LeO.none _)
   | (with_reducible refine LeO.ite ?_ ?_)
   | (with_reducible refine LeO.bind ?_ (fun _ => ?_))
   | exact ih0 _ _ _ _ _ _ _ _
   | exact ih1 _ _ _ _ _ _ _ _
   | exact level_Leads.mono _ _ _ _ _ _ _
   | exact level_Levels.mono _ _ _ _ _ _ _
   | exact racewaylaw7_made.mono _ _ _ _
   | exact racewaylaw7_routed.mono _ _ _ _ _ _
   | exact racewaylaw7_shown.mono _
   | exact LeO.none _
   | refine LeO.ite ?_ ?_
   | refine LeO.bind ?_ (fun _ => ?_)
  ·intro y0 y1 y2 y3 y4 y5 y6 y7
   unfold racewaylaw7_LevelRooms.l0
   repeat' first
   | (with_reducible exact ih0 _ _ _ _ _ _ _ _)
   | (with_reducible exact ih1 _ _ _ _ _ _ _ _)
   | (with_reducible exact level_Leads.mono _ _ _ _ _ _ _)
   | (with_reducible exact level_Levels.mono _ _ _ _ _ _ _)
   | (with_reducible exact racewaylaw7_made.mono _ _ _ _)
   | (with_reducible exact racewaylaw7_routed.mono _ _ _ _ _ _)
   | (with_reducible exact racewaylaw7_shown.mono _)
   | (with_reducible exact LeO.refl _)
   | (with_reducible exact LeO.none _)
   | (with_reducible refine LeO.ite ?_ ?_)
   | (with_reducible refine LeO.bind ?_ (fun _ => ?_))
   | exact ih0 _ _ _ _ _ _ _ _
   | exact ih1 _ _ _ _ _ _ _ _
   | exact level_Leads.mono _ _ _ _ _ _ _
   | exact level_Levels.mono _ _ _ _ _ _ _
   | exact racewaylaw7_made.mono _ _ _ _
   | exact racewaylaw7_routed.mono _ _ _ _ _ _
   | exact racewaylaw7_shown.mono _
   | exact LeO.none _
   | refine LeO.ite ?_ ?_
   | refine LeO.bind ?_ (fun _ => ?_)
theorem racewaylaw7_LevelRooms.mono : ∀ a0 a1 a2 a3 a4 a5 k, LeO (racewaylaw7_LevelRooms.f k a0 a1 a2 a3 a4 a5) (racewaylaw7_LevelRooms.f (k + 1) a0 a1 a2 a3 a4 a5) := by
 intro a0 a1 a2 a3 a4 a5 k
 obtain ⟨ih0, ih1⟩ := racewaylaw7_LevelRooms.mono_l k
 unfold racewaylaw7_LevelRooms.f
 repeat' first
   | (with_reducible exact ih0 _ _ _ _ _ _ _ _)
   | (with_reducible exact ih1 _ _ _ _ _ _ _ _)
   | (with_reducible exact level_Leads.mono _ _ _ _ _ _ _)
   | (with_reducible exact level_Levels.mono _ _ _ _ _ _ _)
   | (with_reducible exact racewaylaw7_made.mono _ _ _ _)
   | (with_reducible exact racewaylaw7_routed.mono _ _ _ _ _ _)
   | (with_reducible exact racewaylaw7_shown.mono _)
   | (with_reducible exact LeO.refl _)
   | (with_reducible exact LeO.none _)
   | (with_reducible refine LeO.ite ?_ ?_)
   | (with_reducible refine LeO.bind ?_ (fun _ => ?_))
   | exact ih0 _ _ _ _ _ _ _ _
   | exact ih1 _ _ _ _ _ _ _ _
   | exact level_Leads.mono _ _ _ _ _ _ _
   | exact level_Levels.mono _ _ _ _ _ _ _
   | exact racewaylaw7_made.mono _ _ _ _
   | exact racewaylaw7_routed.mono _ _ _ _ _ _
   | exact racewaylaw7_shown.mono _
   | exact LeO.none _
   | refine LeO.ite ?_ ?_
   | refine LeO.bind ?_ (fun _ => ?_)
set_option maxHeartbeats 8000000 in
set_option maxRecDepth 100000 in
theorem racewaylaw7_LevelRooms.calls (k : Nat) (a0 : Int) (a1 : Int) (A2 : Option Addr) (c2 : Nat) (l2 : List (S72)) (A3 : Option Addr) (c3 : Nat) (l3 : List Int) (a4 : Int) (a5 : Int) (r : Bool) (w : World) (hr2 : Kd.C k72 w A2 l2.length l2) (hc2 : l2.length ≤ c2) (hr3 : Kd.C (Kd.int .i64) w A3 l3.length l3) (hc3 : l3.length ≤ c3) (h : racewaylaw7_LevelRooms.f k a0 a1 l2 l3 a4 a5 = some r) (hrT_ : Aside0 (r = true)) :
  Calls Try.prog 4 #[.int .i64 a0, .int .i64 a1, .slice A2 l2.length c2, .slice A3 l3.length c3, .int .i64 a4, .int .i64 a5] w fun e w' => e = .returned (.bool r) ∧ Below w.heap.size w w' := by
 have hu27 := Try.underlying27
 have HR2 := Aside0.mk hr2
 have HC2 := Aside0.mk hc2
 clear hr2 hc2
 have HR3 := Aside0.mk hr3
 have HC3 := Aside0.mk hc3
 clear hr3 hc3
 have HB := Aside0.mk (Below.refl w.heap.size w)
 have H : ((racewaylaw7_shown.f k).bind fun t220 => (if t220 = true then ((racewaylaw7_made.f k a0 a1 l2).bind fun bt221 => ((racewaylaw7_routed.f k bt221.1 bt221.2.1 bt221.2.2.1 bt221.2.2.2 l3).bind fun t228 => ((racewaylaw7_pick.f a4 30).bind fun t231 => ((racewaylaw7_pick.f a5 30).bind fun t232 => ((level_Levels.f k bt221.1 bt221.2.1 bt221.2.2.1 bt221.2.2.2 t228 (wrap64 (1 + (mn t231 t232)))).bind fun bt233 => ((level_Levels.f k bt221.1 bt221.2.1 bt221.2.2.1 bt221.2.2.2 t228 (wrap64 (1 + (mx t231 t232)))).bind fun bt237 => ((level_Levels.f k bt221.1 bt221.2.1 bt221.2.2.1 bt221.2.2.2 t228 4611686018427387904).bind fun bt241 => ((level_Leads.f k bt221.1 bt221.2.1 bt221.2.2.1 bt221.2.2.2 t228 4611686018427387904).bind fun bt245 => (if bt233.2 = 0 then (if bt237.2 = 0 then (if bt241.2 = 0 then (if bt245.2 = 0 then (racewaylaw7_LevelRooms.j0 k bt233.1 bt237.1 bt241.1 ((bt245.1.length : Int) != 0) bt221.1 bt221.2.1 bt221.2.2.1 bt221.2.2.2) else (racewaylaw7_LevelRooms.j0 k bt233.1 bt237.1 bt241.1 true bt221.1 bt221.2.1 bt221.2.2.1 bt221.2.2.2)) else (racewaylaw7_LevelRooms.j0 k bt233.1 bt237.1 bt241.1 true bt221.1 bt221.2.1 bt221.2.2.1 bt221.2.2.2)) else (racewaylaw7_LevelRooms.j0 k bt233.1 bt237.1 bt241.1 true bt221.1 bt221.2.1 bt221.2.2.1 bt221.2.2.2)) else (racewaylaw7_LevelRooms.j0 k bt233.1 bt237.1 bt241.1 true bt221.1 bt221.2.1 bt221.2.2.1 bt221.2.2.2)))))))))) else (some false))) = some r := h
 clear h
 replace H := Option.bind_eq_some_iff.mp H
 obtain ⟨t220, A70, H⟩ := H
 replace H : (if t220 = true then ((racewaylaw7_made.f k a0 a1 l2).bind fun bt221 => ((racewaylaw7_routed.f k bt221.1 bt221.2.1 bt221.2.2.1 bt221.2.2.2 l3).bind fun t228 => ((racewaylaw7_pick.f a4 30).bind fun t231 => ((racewaylaw7_pick.f a5 30).bind fun t232 => ((level_Levels.f k bt221.1 bt221.2.1 bt221.2.2.1 bt221.2.2.2 t228 (wrap64 (1 + (mn t231 t232)))).bind fun bt233 => ((level_Levels.f k bt221.1 bt221.2.1 bt221.2.2.1 bt221.2.2.2 t228 (wrap64 (1 + (mx t231 t232)))).bind fun bt237 => ((level_Levels.f k bt221.1 bt221.2.1 bt221.2.2.1 bt221.2.2.2 t228 4611686018427387904).bind fun bt241 => ((level_Leads.f k bt221.1 bt221.2.1 bt221.2.2.1 bt221.2.2.2 t228 4611686018427387904).bind fun bt245 => (if bt233.2 = 0 then (if bt237.2 = 0 then (if bt241.2 = 0 then (if bt245.2 = 0 then (racewaylaw7_LevelRooms.j0 k bt233.1 bt237.1 bt241.1 ((bt245.1.length : Int) != 0) bt221.1 bt221.2.1 bt221.2.2.1 bt221.2.2.2) else (racewaylaw7_LevelRooms.j0 k bt233.1 bt237.1 bt241.1 true bt221.1 bt221.2.1 bt221.2.2.1 bt221.2.2.2)) else (racewaylaw7_LevelRooms.j0 k bt233.1 bt237.1 bt241.1 true bt221.1 bt221.2.1 bt221.2.2.1 bt221.2.2.2)) else (racewaylaw7_LevelRooms.j0 k bt233.1 bt237.1 bt241.1 true bt221.1 bt221.2.1 bt221.2.2.1 bt221.2.2.2)) else (racewaylaw7_LevelRooms.j0 k bt233.1 bt237.1 bt241.1 true bt221.1 bt221.2.1 bt221.2.2.1 bt221.2.2.2)))))))))) else (some false)) = some r := H
 have A7 := Aside0.mk A70
 clear A70
 by_cases c8 : t220 = true
 ·subst c8
  have H1 : ((racewaylaw7_made.f k a0 a1 l2).bind fun bt221 => ((racewaylaw7_routed.f k bt221.1 bt221.2.1 bt221.2.2.1 bt221.2.2.2 l3).bind fun t228 => ((racewaylaw7_pick.f a4 30).bind fun t231 => ((racewaylaw7_pick.f a5 30).bind fun t232 => ((level_Levels.f k bt221.1 bt221.2.1 bt221.2.2.1 bt221.2.2.2 t228 (wrap64 (1 + (mn t231 t232)))).bind fun bt233 => ((level_Levels.f k bt221.1 bt221.2.1 bt221.2.2.1 bt221.2.2.2 t228 (wrap64 (1 + (mx t231 t232)))).bind fun bt237 => ((level_Levels.f k bt221.1 bt221.2.1 bt221.2.2.1 bt221.2.2.2 t228 4611686018427387904).bind fun bt241 => ((level_Leads.f k bt221.1 bt221.2.1 bt221.2.2.1 bt221.2.2.2 t228 4611686018427387904).bind fun bt245 => (if bt233.2 = 0 then (if bt237.2 = 0 then (if bt241.2 = 0 then (if bt245.2 = 0 then (racewaylaw7_LevelRooms.j0 k bt233.1 bt237.1 bt241.1 ((bt245.1.length : Int) != 0) bt221.1 bt221.2.1 bt221.2.2.1 bt221.2.2.2) else (racewaylaw7_LevelRooms.j0 k bt233.1 bt237.1 bt241.1 true bt221.1 bt221.2.1 bt221.2.2.1 bt221.2.2.2)) else (racewaylaw7_LevelRooms.j0 k bt233.1 bt237.1 bt241.1 true bt221.1 bt221.2.1 bt221.2.2.1 bt221.2.2.2)) else (racewaylaw7_LevelRooms.j0 k bt233.1 bt237.1 bt241.1 true bt221.1 bt221.2.1 bt221.2.2.1 bt221.2.2.2)) else (racewaylaw7_LevelRooms.j0 k bt233.1 bt237.1 bt241.1 true bt221.1 bt221.2.1 bt221.2.2.1 bt221.2.2.2)))))))))) = some r := by rw [if_pos rfl] at H; exact H
  clear H
  have H := H1
  clear H1
  replace H := Option.bind_eq_some_iff.mp H
  obtain ⟨⟨t221, t222, t223, t224⟩, A90, H⟩ := H
  replace H : ((racewaylaw7_routed.f k t221 t222 t223 t224 l3).bind fun t228 => ((racewaylaw7_pick.f a4 30).bind fun t231 => ((racewaylaw7_pick.f a5 30).bind fun t232 => ((level_Levels.f k t221 t222 t223 t224 t228 (wrap64 (1 + (mn t231 t232)))).bind fun bt233 => ((level_Levels.f k t221 t222 t223 t224 t228 (wrap64 (1 + (mx t231 t232)))).bind fun bt237 => ((level_Levels.f k t221 t222 t223 t224 t228 4611686018427387904).bind fun bt241 => ((level_Leads.f k t221 t222 t223 t224 t228 4611686018427387904).bind fun bt245 => (if bt233.2 = 0 then (if bt237.2 = 0 then (if bt241.2 = 0 then (if bt245.2 = 0 then (racewaylaw7_LevelRooms.j0 k bt233.1 bt237.1 bt241.1 ((bt245.1.length : Int) != 0) t221 t222 t223 t224) else (racewaylaw7_LevelRooms.j0 k bt233.1 bt237.1 bt241.1 true t221 t222 t223 t224)) else (racewaylaw7_LevelRooms.j0 k bt233.1 bt237.1 bt241.1 true t221 t222 t223 t224)) else (racewaylaw7_LevelRooms.j0 k bt233.1 bt237.1 bt241.1 true t221 t222 t223 t224)) else (racewaylaw7_LevelRooms.j0 k bt233.1 bt237.1 bt241.1 true t221 t222 t223 t224))))))))) = some r := H
  have A9 := Aside0.mk A90
  clear A90
  replace H := Option.bind_eq_some_iff.mp H
  obtain ⟨t228, A100, H⟩ := H
  replace H : ((racewaylaw7_pick.f a4 30).bind fun t231 => ((racewaylaw7_pick.f a5 30).bind fun t232 => ((level_Levels.f k t221 t222 t223 t224 t228 (wrap64 (1 + (mn t231 t232)))).bind fun bt233 => ((level_Levels.f k t221 t222 t223 t224 t228 (wrap64 (1 + (mx t231 t232)))).bind fun bt237 => ((level_Levels.f k t221 t222 t223 t224 t228 4611686018427387904).bind fun bt241 => ((level_Leads.f k t221 t222 t223 t224 t228 4611686018427387904).bind fun bt245 => (if bt233.2 = 0 then (if bt237.2 = 0 then (if bt241.2 = 0 then (if bt245.2 = 0 then (racewaylaw7_LevelRooms.j0 k bt233.1 bt237.1 bt241.1 ((bt245.1.length : Int) != 0) t221 t222 t223 t224) else (racewaylaw7_LevelRooms.j0 k bt233.1 bt237.1 bt241.1 true t221 t222 t223 t224)) else (racewaylaw7_LevelRooms.j0 k bt233.1 bt237.1 bt241.1 true t221 t222 t223 t224)) else (racewaylaw7_LevelRooms.j0 k bt233.1 bt237.1 bt241.1 true t221 t222 t223 t224)) else (racewaylaw7_LevelRooms.j0 k bt233.1 bt237.1 bt241.1 true t221 t222 t223 t224)))))))) = some r := H
  have A10 := Aside0.mk A100
  clear A100
  replace H := Option.bind_eq_some_iff.mp H
  obtain ⟨t231, A110, H⟩ := H
  replace H : ((racewaylaw7_pick.f a5 30).bind fun t232 => ((level_Levels.f k t221 t222 t223 t224 t228 (wrap64 (1 + (mn t231 t232)))).bind fun bt233 => ((level_Levels.f k t221 t222 t223 t224 t228 (wrap64 (1 + (mx t231 t232)))).bind fun bt237 => ((level_Levels.f k t221 t222 t223 t224 t228 4611686018427387904).bind fun bt241 => ((level_Leads.f k t221 t222 t223 t224 t228 4611686018427387904).bind fun bt245 => (if bt233.2 = 0 then (if bt237.2 = 0 then (if bt241.2 = 0 then (if bt245.2 = 0 then (racewaylaw7_LevelRooms.j0 k bt233.1 bt237.1 bt241.1 ((bt245.1.length : Int) != 0) t221 t222 t223 t224) else (racewaylaw7_LevelRooms.j0 k bt233.1 bt237.1 bt241.1 true t221 t222 t223 t224)) else (racewaylaw7_LevelRooms.j0 k bt233.1 bt237.1 bt241.1 true t221 t222 t223 t224)) else (racewaylaw7_LevelRooms.j0 k bt233.1 bt237.1 bt241.1 true t221 t222 t223 t224)) else (racewaylaw7_LevelRooms.j0 k bt233.1 bt237.1 bt241.1 true t221 t222 t223 t224))))))) = some r := H
  have A11 := Aside0.mk A110
  clear A110
  replace H := Option.bind_eq_some_iff.mp H
  obtain ⟨t232, A120, H⟩ := H
  replace H : ((level_Levels.f k t221 t222 t223 t224 t228 (wrap64 (1 + (mn t231 t232)))).bind fun bt233 => ((level_Levels.f k t221 t222 t223 t224 t228 (wrap64 (1 + (mx t231 t232)))).bind fun bt237 => ((level_Levels.f k t221 t222 t223 t224 t228 4611686018427387904).bind fun bt241 => ((level_Leads.f k t221 t222 t223 t224 t228 4611686018427387904).bind fun bt245 => (if bt233.2 = 0 then (if bt237.2 = 0 then (if bt241.2 = 0 then (if bt245.2 = 0 then (racewaylaw7_LevelRooms.j0 k bt233.1 bt237.1 bt241.1 ((bt245.1.length : Int) != 0) t221 t222 t223 t224) else (racewaylaw7_LevelRooms.j0 k bt233.1 bt237.1 bt241.1 true t221 t222 t223 t224)) else (racewaylaw7_LevelRooms.j0 k bt233.1 bt237.1 bt241.1 true t221 t222 t223 t224)) else (racewaylaw7_LevelRooms.j0 k bt233.1 bt237.1 bt241.1 true t221 t222 t223 t224)) else (racewaylaw7_LevelRooms.j0 k bt233.1 bt237.1 bt241.1 true t221 t222 t223 t224)))))) = some r := H
  have A12 := Aside0.mk A120
  clear A120
  obtain ⟨ji13, hji13⟩ : ∃ j_ : Int, (mn t231 t232) = j_ := ⟨_, rfl⟩
  replace H : ((level_Levels.f k t221 t222 t223 t224 t228 (wrap64 (1 + (ji13)))).bind fun bt233 => ((level_Levels.f k t221 t222 t223 t224 t228 (wrap64 (1 + (mx t231 t232)))).bind fun bt237 => ((level_Levels.f k t221 t222 t223 t224 t228 4611686018427387904).bind fun bt241 => ((level_Leads.f k t221 t222 t223 t224 t228 4611686018427387904).bind fun bt245 => (if bt233.2 = 0 then (if bt237.2 = 0 then (if bt241.2 = 0 then (if bt245.2 = 0 then (racewaylaw7_LevelRooms.j0 k bt233.1 bt237.1 bt241.1 ((bt245.1.length : Int) != 0) t221 t222 t223 t224) else (racewaylaw7_LevelRooms.j0 k bt233.1 bt237.1 bt241.1 true t221 t222 t223 t224)) else (racewaylaw7_LevelRooms.j0 k bt233.1 bt237.1 bt241.1 true t221 t222 t223 t224)) else (racewaylaw7_LevelRooms.j0 k bt233.1 bt237.1 bt241.1 true t221 t222 t223 t224)) else (racewaylaw7_LevelRooms.j0 k bt233.1 bt237.1 bt241.1 true t221 t222 t223 t224)))))) = some r := by first | (rw [hji13] at H; exact H) | (simp only [hji13] at H ⊢; exact H)
  (try rw [hji13] at A7)
  (try rw [hji13] at A9)
  (try rw [hji13] at A10)
  (try rw [hji13] at A11)
  (try rw [hji13] at A12)
  have hji13_ : (if t232 < t231 then t232 else t231) = ji13 := hji13
  obtain ⟨ji14, hji14⟩ : ∃ j_ : Int, (mx t231 t232) = j_ := ⟨_, rfl⟩
  replace H : ((level_Levels.f k t221 t222 t223 t224 t228 (wrap64 (1 + (ji13)))).bind fun bt233 => ((level_Levels.f k t221 t222 t223 t224 t228 (wrap64 (1 + (ji14)))).bind fun bt237 => ((level_Levels.f k t221 t222 t223 t224 t228 4611686018427387904).bind fun bt241 => ((level_Leads.f k t221 t222 t223 t224 t228 4611686018427387904).bind fun bt245 => (if bt233.2 = 0 then (if bt237.2 = 0 then (if bt241.2 = 0 then (if bt245.2 = 0 then (racewaylaw7_LevelRooms.j0 k bt233.1 bt237.1 bt241.1 ((bt245.1.length : Int) != 0) t221 t222 t223 t224) else (racewaylaw7_LevelRooms.j0 k bt233.1 bt237.1 bt241.1 true t221 t222 t223 t224)) else (racewaylaw7_LevelRooms.j0 k bt233.1 bt237.1 bt241.1 true t221 t222 t223 t224)) else (racewaylaw7_LevelRooms.j0 k bt233.1 bt237.1 bt241.1 true t221 t222 t223 t224)) else (racewaylaw7_LevelRooms.j0 k bt233.1 bt237.1 bt241.1 true t221 t222 t223 t224)))))) = some r := by first | (rw [hji14] at H; exact H) | (simp only [hji14] at H ⊢; exact H)
  (try rw [hji14] at A7)
  (try rw [hji14] at A9)
  (try rw [hji14] at A10)
  (try rw [hji14] at A11)
  (try rw [hji14] at A12)
  have hji14_ : (if t231 < t232 then t232 else t231) = ji14 := hji14
  replace H := Option.bind_eq_some_iff.mp H
  obtain ⟨⟨t233, t236⟩, A150, H⟩ := H
  replace H : ((level_Levels.f k t221 t222 t223 t224 t228 (wrap64 (1 + (ji14)))).bind fun bt237 => ((level_Levels.f k t221 t222 t223 t224 t228 4611686018427387904).bind fun bt241 => ((level_Leads.f k t221 t222 t223 t224 t228 4611686018427387904).bind fun bt245 => (if t236 = 0 then (if bt237.2 = 0 then (if bt241.2 = 0 then (if bt245.2 = 0 then (racewaylaw7_LevelRooms.j0 k t233 bt237.1 bt241.1 ((bt245.1.length : Int) != 0) t221 t222 t223 t224) else (racewaylaw7_LevelRooms.j0 k t233 bt237.1 bt241.1 true t221 t222 t223 t224)) else (racewaylaw7_LevelRooms.j0 k t233 bt237.1 bt241.1 true t221 t222 t223 t224)) else (racewaylaw7_LevelRooms.j0 k t233 bt237.1 bt241.1 true t221 t222 t223 t224)) else (racewaylaw7_LevelRooms.j0 k t233 bt237.1 bt241.1 true t221 t222 t223 t224))))) = some r := H
  have A15 := Aside0.mk A150
  clear A150
  replace H := Option.bind_eq_some_iff.mp H
  obtain ⟨⟨t237, t240⟩, A160, H⟩ := H
  replace H : ((level_Levels.f k t221 t222 t223 t224 t228 4611686018427387904).bind fun bt241 => ((level_Leads.f k t221 t222 t223 t224 t228 4611686018427387904).bind fun bt245 => (if t236 = 0 then (if t240 = 0 then (if bt241.2 = 0 then (if bt245.2 = 0 then (racewaylaw7_LevelRooms.j0 k t233 t237 bt241.1 ((bt245.1.length : Int) != 0) t221 t222 t223 t224) else (racewaylaw7_LevelRooms.j0 k t233 t237 bt241.1 true t221 t222 t223 t224)) else (racewaylaw7_LevelRooms.j0 k t233 t237 bt241.1 true t221 t222 t223 t224)) else (racewaylaw7_LevelRooms.j0 k t233 t237 bt241.1 true t221 t222 t223 t224)) else (racewaylaw7_LevelRooms.j0 k t233 t237 bt241.1 true t221 t222 t223 t224)))) = some r := H
  have A16 := Aside0.mk A160
  clear A160
  replace H := Option.bind_eq_some_iff.mp H
  obtain ⟨⟨t241, t244⟩, A170, H⟩ := H
  replace H : ((level_Leads.f k t221 t222 t223 t224 t228 4611686018427387904).bind fun bt245 => (if t236 = 0 then (if t240 = 0 then (if t244 = 0 then (if bt245.2 = 0 then (racewaylaw7_LevelRooms.j0 k t233 t237 t241 ((bt245.1.length : Int) != 0) t221 t222 t223 t224) else (racewaylaw7_LevelRooms.j0 k t233 t237 t241 true t221 t222 t223 t224)) else (racewaylaw7_LevelRooms.j0 k t233 t237 t241 true t221 t222 t223 t224)) else (racewaylaw7_LevelRooms.j0 k t233 t237 t241 true t221 t222 t223 t224)) else (racewaylaw7_LevelRooms.j0 k t233 t237 t241 true t221 t222 t223 t224))) = some r := H
  have A17 := Aside0.mk A170
  clear A170
  replace H := Option.bind_eq_some_iff.mp H
  obtain ⟨⟨t245, t248⟩, A180, H⟩ := H
  replace H : (if t236 = 0 then (if t240 = 0 then (if t244 = 0 then (if t248 = 0 then (racewaylaw7_LevelRooms.j0 k t233 t237 t241 ((t245.length : Int) != 0) t221 t222 t223 t224) else (racewaylaw7_LevelRooms.j0 k t233 t237 t241 true t221 t222 t223 t224)) else (racewaylaw7_LevelRooms.j0 k t233 t237 t241 true t221 t222 t223 t224)) else (racewaylaw7_LevelRooms.j0 k t233 t237 t241 true t221 t222 t223 t224)) else (racewaylaw7_LevelRooms.j0 k t233 t237 t241 true t221 t222 t223 t224)) = some r := H
  have A18 := Aside0.mk A180
  clear A180
  have HC19 := Aside0.mk H
  clear H
  go_enter Try.func4, Try.ntmps4
  go_upto_region 12 with (first | (go_at_call 22; (with_reducible refine (racewaylaw7_shown.calls k  true _ A7.out).mono ?_); rintro e w20 ⟨rfl, hb⟩; have n0_ := Aside0.mk (below_step (by repeat (first | (with_reducible first | exact HB.out | apply below_alloc | apply pw_below_drewN | apply below_drew1) | exact HB.out)) hb); clear HB; have HB := n0_; clear n0_; (try clear hb); (try clear hb2); (try clear hk); (try clear hi)) | (go_at_call 23; (with_reducible refine (racewaylaw7_made.calls k a0 a1 _ _ l2 t221 t222 t223 t224 _ ?side1 ?side2 A9.out).mono ?_); (case side1 => repeat (first | exact (Kd.C_below HR2.out HB.out) | (with_reducible refine Kd.C_alloc ?_ _) | (with_reducible refine Kd.C_drewN ?_ _) | (with_reducible refine Kd.C_drew ?_))); (case side2 => exact HC2.out); rintro e w21 ⟨v225, rfl, ho0, hb⟩; have n0_ := Aside0.mk (Kd.R_lower ho0 (below_size (by repeat (first | (with_reducible first | exact HB.out | apply below_alloc | apply pw_below_drewN | apply below_drew1) | exact HB.out)))); have n1_ := Aside0.mk (below_step (by repeat (first | (with_reducible first | exact HB.out | apply below_alloc | apply pw_below_drewN | apply below_drew1) | exact HB.out)) hb); clear HB; have HO226 := n0_; have HB := n1_; clear n0_ n1_; (try clear hb); (try clear hb2); (try clear hk); (try clear hi); (try clear ho0)) | ((with_reducible refine gate_dst (N := 14) rfl ?_); (try (refine gate_guard (by rfl) ?_; dsimp only)); refine box_event ?hg (N := 14) ?hd (cs := #[.int .i64 0, .int .i64 0, .int .i64 0, .slice none 0 0]) (t := 27) ?hr ?_; (case hd => rfl); (case hg => rfl); (case hr => first | (go_simp; done) | (go_simp; rfl)); intro gb227 hg w22 hbox hb; have n0_ := Aside0.mk (Kd.R_below (by (with_reducible repeat first | apply Kd.R_alloc | apply Kd.R_drewN | apply Kd.R_drew); exact HO226.out) hb); have n1_ := Aside0.mk (below_step (by repeat (first | (with_reducible first | exact HB.out | apply below_alloc | apply pw_below_drewN | apply below_drew1) | exact HB.out)) hb); have n2_ := Aside0.mk (hbox); have n3_ := Aside0.mk ((by rw [hg]; exact (below_size (by repeat (first | (with_reducible first | exact HB.out | apply below_alloc | apply pw_below_drewN | apply below_drew1) | exact HB.out))) : w.heap.size ≤ gb227)); have n4_ := Aside0.mk ((by rw [hg]; exact (below_size (by repeat (first | (with_reducible first | exact HB.out | apply below_alloc | apply pw_below_drewN | apply below_drew1) | exact HB.out))) : w.heap.size ≤ gb227)); clear HO226; clear HB; have HO226 := n0_; have HB := n1_; have BK227 := n2_; have GW227 := n3_; have GE227 := n4_; clear n0_ n1_ n2_ n3_ n4_; clear hb hbox hg; have hcz23_0 : w22.cell? ⟨gb227, 0, none⟩ = some (.int .i64 0) := (blk_cell BK227.out 0).trans rfl; have hcz23_1 : w22.cell? ⟨gb227, 1, none⟩ = some (.int .i64 0) := (blk_cell BK227.out 1).trans rfl; have hcz23_2 : w22.cell? ⟨gb227, 2, none⟩ = some (.int .i64 0) := (blk_cell BK227.out 2).trans rfl; have hcz23_3 : w22.cell? ⟨gb227, 3, none⟩ = some (.slice none 0 0) := (blk_cell BK227.out 3).trans rfl; have hfz23_0 := blk_frozen BK227.out 0; have hfz23_1 := blk_frozen BK227.out 1; have hfz23_2 := blk_frozen BK227.out 2; have hfz23_3 := blk_frozen BK227.out 3; obtain ⟨Ao24, co24, eo24⟩ := Kd.R_slice HO226.out; (first | subst eo24 | skip)) | (go_at_call 24; (with_reducible refine (racewaylaw7_routed.calls k t221 t222 t223 _ _ t224 _ _ l3 t228 _ ?side1 ?side2 ?side3 ?side4 A10.out).mono ?_); (case side1 => refine (Kd.R_reads' (e := 49) (base := w.heap.size) (ok := fun k_ => True) (n := t224.length) (c := co24) ?_).2.2; exact (by (with_reducible repeat first | apply Kd.R_alloc | apply Kd.R_drewN | apply Kd.R_drew); exact (Kd.R_mono (Kd.R_far (p := ⟨gb227, 3, none⟩) (Kd.R_far (p := ⟨gb227, 2, none⟩) (Kd.R_far (p := ⟨gb227, 1, none⟩) (Kd.R_far (p := ⟨gb227, 0, none⟩) (Kd.R_types HO226.out BK227.out (by decide)) (fun _ hk => hk.2) (.int .i64 t221)) (fun _ hk => hk.2) (.int .i64 t222)) (fun _ hk => hk.2) (.int .i64 t223)) (fun _ hk => hk.2) (.slice Ao24 t224.length co24)) (fun _ h_ => h_.1)))); (case side2 => exact (Kd.R_reads' HO226.out).2.1); (case side3 => exact Kd.C_below HR3.out (by repeat (first | (with_reducible first | exact HB.out | apply below_alloc | apply pw_below_drewN | apply below_drew1 | refine below_set ?_ GE227.out) | exact HB.out))); (case side4 => exact HC3.out); rintro e w25 ⟨v229, rfl, ho0, hb⟩; have n0_ := Aside0.mk (Kd.R_below (by (with_reducible repeat first | apply Kd.R_alloc | apply Kd.R_drewN | apply Kd.R_drew); exact (Kd.R_mono (Kd.R_far (p := ⟨gb227, 3, none⟩) (Kd.R_far (p := ⟨gb227, 2, none⟩) (Kd.R_far (p := ⟨gb227, 1, none⟩) (Kd.R_far (p := ⟨gb227, 0, none⟩) (Kd.R_types HO226.out BK227.out (by decide)) (fun _ hk => hk.2) (.int .i64 t221)) (fun _ hk => hk.2) (.int .i64 t222)) (fun _ hk => hk.2) (.int .i64 t223)) (fun _ hk => hk.2) (.slice Ao24 t224.length co24)) (fun _ h_ => h_.1))) hb); have n1_ := Aside0.mk (Kd.R_lower ho0 (below_size (by repeat (first | (with_reducible first | exact HB.out | apply below_alloc | apply pw_below_drewN | apply below_drew1 | refine below_set ?_ GE227.out) | exact HB.out)))); have n2_ := Aside0.mk (blk_below (g := gb227) (o := .cells #[.int .i64 t221, .int .i64 t222, .int .i64 t223, .slice Ao24 t224.length co24] 27 (0, 0)) (by (with_reducible repeat first | refine blk_drewN ?_ _ | refine blk_drew ?_ | refine blk_alloc ?_ _); refine blk_put (cs := #[.int .i64 t221, .int .i64 t222, .int .i64 t223, .slice none 0 0]) ?_ 3 _ rfl; (with_reducible repeat first | refine blk_drewN ?_ _ | refine blk_drew ?_ | refine blk_alloc ?_ _); refine blk_put (cs := #[.int .i64 t221, .int .i64 t222, .int .i64 0, .slice none 0 0]) ?_ 2 _ rfl; (with_reducible repeat first | refine blk_drewN ?_ _ | refine blk_drew ?_ | refine blk_alloc ?_ _); refine blk_put (cs := #[.int .i64 t221, .int .i64 0, .int .i64 0, .slice none 0 0]) ?_ 1 _ rfl; (with_reducible repeat first | refine blk_drewN ?_ _ | refine blk_drew ?_ | refine blk_alloc ?_ _); refine blk_put (cs := #[.int .i64 0, .int .i64 0, .int .i64 0, .slice none 0 0]) ?_ 0 _ rfl; (with_reducible repeat first | refine blk_drewN ?_ _ | refine blk_drew ?_ | refine blk_alloc ?_ _); exact BK227.out) hb); have n3_ := Aside0.mk (below_step (by repeat (first | (with_reducible first | exact HB.out | apply below_alloc | apply pw_below_drewN | apply below_drew1 | refine below_set ?_ GE227.out) | exact HB.out)) hb); clear HO226; clear BK227; clear HB; have HO226 := n0_; have HO230 := n1_; have BK227 := n2_; have HB := n3_; clear n0_ n1_ n2_ n3_; (try clear hb); (try clear hb2); (try clear hk); (try clear hi); (try clear ho0)) | (go_at_call 25; (with_reducible refine (racewaylaw7_pick.calls a4 30 t231 _ A11.out).mono ?_); rintro e w' ⟨rfl, ⟨nd, rfl⟩⟩; (try first | exact ⟨rfl, _, World.drewN_drewN _ _ _⟩ | exact ⟨rfl, _, Eq.trans (World.drewN_drewN _ _ _) (congrArg (World.drewN _) (Nat.add_assoc _ _ _))⟩)) | (go_at_call 25; (with_reducible refine (racewaylaw7_pick.calls a5 30 t232 _ A12.out).mono ?_); rintro e w' ⟨rfl, ⟨nd, rfl⟩⟩; (try first | exact ⟨rfl, _, World.drewN_drewN _ _ _⟩ | exact ⟨rfl, _, Eq.trans (World.drewN_drewN _ _ _) (congrArg (World.drewN _) (Nat.add_assoc _ _ _))⟩); have hcz26_0 : w25.cell? ⟨gb227, 0, none⟩ = some (.int .i64 t221) := (blk_cell BK227.out 0).trans rfl; have hcz26_1 : w25.cell? ⟨gb227, 1, none⟩ = some (.int .i64 t222) := (blk_cell BK227.out 1).trans rfl; have hcz26_2 : w25.cell? ⟨gb227, 2, none⟩ = some (.int .i64 t223) := (blk_cell BK227.out 2).trans rfl; have hcz26_3 : w25.cell? ⟨gb227, 3, none⟩ = some (.slice Ao24 t224.length co24) := (blk_cell BK227.out 3).trans rfl; have hfz26_0 := blk_frozen BK227.out 0; have hfz26_1 := blk_frozen BK227.out 1; have hfz26_2 := blk_frozen BK227.out 2; have hfz26_3 := blk_frozen BK227.out 3; obtain ⟨Ao27, co27, eo27⟩ := Kd.R_slice HO230.out; (first | subst eo27 | skip)) | (go_at_call 26; (with_reducible refine (level_Levels.calls k t221 t222 t223 _ _ t224 _ _ t228 (wrap64 (1 + (ji13))) t233 t236 _ ?side1 ?side2 ?side3 ?side4 A15.out).mono ?_); (case side1 => repeat (first | exact (Kd.R_reads' HO226.out).2.2 | (with_reducible refine Kd.C_alloc ?_ _) | (with_reducible refine Kd.C_drewN ?_ _) | (with_reducible refine Kd.C_drew ?_))); (case side2 => exact (Kd.R_reads' HO226.out).2.1); (case side3 => repeat (first | exact (Kd.R_reads' HO230.out).2.2 | (with_reducible refine Kd.C_alloc ?_ _) | (with_reducible refine Kd.C_drewN ?_ _) | (with_reducible refine Kd.C_drew ?_))); (case side4 => exact (Kd.R_reads' HO230.out).2.1); rintro e w28 ⟨v234, rfl, ho0, hb⟩; have n0_ := Aside0.mk (Kd.R_below (by (with_reducible repeat first | apply Kd.R_alloc | apply Kd.R_drewN | apply Kd.R_drew); exact HO226.out) hb); have n1_ := Aside0.mk (Kd.R_below (by (with_reducible repeat first | apply Kd.R_alloc | apply Kd.R_drewN | apply Kd.R_drew); exact HO230.out) hb); have n2_ := Aside0.mk (Kd.R_lower ho0 (below_size (by repeat (first | (with_reducible first | exact HB.out | apply below_alloc | apply pw_below_drewN | apply below_drew1 | refine below_set ?_ GE227.out) | exact HB.out)))); have n3_ := Aside0.mk (blk_below (g := gb227) (o := .cells #[.int .i64 t221, .int .i64 t222, .int .i64 t223, .slice Ao24 t224.length co24] 27 (0, 0)) (by (with_reducible repeat first | refine blk_drewN ?_ _ | refine blk_drew ?_ | refine blk_alloc ?_ _); exact BK227.out) hb); have n4_ := Aside0.mk (below_step (by repeat (first | (with_reducible first | exact HB.out | apply below_alloc | apply pw_below_drewN | apply below_drew1 | refine below_set ?_ GE227.out) | exact HB.out)) hb); clear HO226; clear HO230; clear BK227; clear HB; have HO226 := n0_; have HO230 := n1_; have HO235 := n2_; have BK227 := n3_; have HB := n4_; clear n0_ n1_ n2_ n3_ n4_; (try clear hb); (try clear hb2); (try clear hk); (try clear hi); (try clear ho0); have hcz29_0 : w28.cell? ⟨gb227, 0, none⟩ = some (.int .i64 t221) := (blk_cell BK227.out 0).trans rfl; have hcz29_1 : w28.cell? ⟨gb227, 1, none⟩ = some (.int .i64 t222) := (blk_cell BK227.out 1).trans rfl; have hcz29_2 : w28.cell? ⟨gb227, 2, none⟩ = some (.int .i64 t223) := (blk_cell BK227.out 2).trans rfl; have hcz29_3 : w28.cell? ⟨gb227, 3, none⟩ = some (.slice Ao24 t224.length co24) := (blk_cell BK227.out 3).trans rfl; have hfz29_0 := blk_frozen BK227.out 0; have hfz29_1 := blk_frozen BK227.out 1; have hfz29_2 := blk_frozen BK227.out 2; have hfz29_3 := blk_frozen BK227.out 3) | (go_at_call 26; (with_reducible refine (level_Levels.calls k t221 t222 t223 _ _ t224 _ _ t228 (wrap64 (1 + (ji14))) t237 t240 _ ?side1 ?side2 ?side3 ?side4 A16.out).mono ?_); (case side1 => repeat (first | exact (Kd.R_reads' HO226.out).2.2 | (with_reducible refine Kd.C_alloc ?_ _) | (with_reducible refine Kd.C_drewN ?_ _) | (with_reducible refine Kd.C_drew ?_))); (case side2 => exact (Kd.R_reads' HO226.out).2.1); (case side3 => repeat (first | exact (Kd.R_reads' HO230.out).2.2 | (with_reducible refine Kd.C_alloc ?_ _) | (with_reducible refine Kd.C_drewN ?_ _) | (with_reducible refine Kd.C_drew ?_))); (case side4 => exact (Kd.R_reads' HO230.out).2.1); rintro e w30 ⟨v238, rfl, ho0, hb⟩; have n0_ := Aside0.mk (Kd.R_below (by (with_reducible repeat first | apply Kd.R_alloc | apply Kd.R_drewN | apply Kd.R_drew); exact HO226.out) hb); have n1_ := Aside0.mk (Kd.R_below (by (with_reducible repeat first | apply Kd.R_alloc | apply Kd.R_drewN | apply Kd.R_drew); exact HO230.out) hb); have n2_ := Aside0.mk (Kd.R_elder' (by (with_reducible repeat first | apply Kd.R_alloc | apply Kd.R_drewN | apply Kd.R_drew); exact HO235.out) (Kd.R_base ho0) hb); have n3_ := Aside0.mk (Kd.R_lower (Kd.R_new' ho0 (Kd.R_lt (by (with_reducible repeat first | apply Kd.R_alloc | apply Kd.R_drewN | apply Kd.R_drew); exact HO235.out))) (below_size (by repeat (first | (with_reducible first | exact HB.out | apply below_alloc | apply pw_below_drewN | apply below_drew1 | refine below_set ?_ GE227.out) | exact HB.out)))); have n4_ := Aside0.mk (blk_below (g := gb227) (o := .cells #[.int .i64 t221, .int .i64 t222, .int .i64 t223, .slice Ao24 t224.length co24] 27 (0, 0)) (by (with_reducible repeat first | refine blk_drewN ?_ _ | refine blk_drew ?_ | refine blk_alloc ?_ _); exact BK227.out) hb); have n5_ := Aside0.mk (below_step (by repeat (first | (with_reducible first | exact HB.out | apply below_alloc | apply pw_below_drewN | apply below_drew1 | refine below_set ?_ GE227.out) | exact HB.out)) hb); clear HO226; clear HO230; clear HO235; clear BK227; clear HB; have HO226 := n0_; have HO230 := n1_; have HO235 := n2_; have HO239 := n3_; have BK227 := n4_; have HB := n5_; clear n0_ n1_ n2_ n3_ n4_ n5_; (try clear hb); (try clear hb2); (try clear hk); (try clear hi); (try clear ho0); have hcz31_0 : w30.cell? ⟨gb227, 0, none⟩ = some (.int .i64 t221) := (blk_cell BK227.out 0).trans rfl; have hcz31_1 : w30.cell? ⟨gb227, 1, none⟩ = some (.int .i64 t222) := (blk_cell BK227.out 1).trans rfl; have hcz31_2 : w30.cell? ⟨gb227, 2, none⟩ = some (.int .i64 t223) := (blk_cell BK227.out 2).trans rfl; have hcz31_3 : w30.cell? ⟨gb227, 3, none⟩ = some (.slice Ao24 t224.length co24) := (blk_cell BK227.out 3).trans rfl; have hfz31_0 := blk_frozen BK227.out 0; have hfz31_1 := blk_frozen BK227.out 1; have hfz31_2 := blk_frozen BK227.out 2; have hfz31_3 := blk_frozen BK227.out 3) | (go_at_call 26; (with_reducible refine (level_Levels.calls k t221 t222 t223 _ _ t224 _ _ t228 4611686018427387904 t241 t244 _ ?side1 ?side2 ?side3 ?side4 A17.out).mono ?_); (case side1 => repeat (first | exact (Kd.R_reads' HO226.out).2.2 | (with_reducible refine Kd.C_alloc ?_ _) | (with_reducible refine Kd.C_drewN ?_ _) | (with_reducible refine Kd.C_drew ?_))); (case side2 => exact (Kd.R_reads' HO226.out).2.1); (case side3 => repeat (first | exact (Kd.R_reads' HO230.out).2.2 | (with_reducible refine Kd.C_alloc ?_ _) | (with_reducible refine Kd.C_drewN ?_ _) | (with_reducible refine Kd.C_drew ?_))); (case side4 => exact (Kd.R_reads' HO230.out).2.1); rintro e w32 ⟨v242, rfl, ho0, hb⟩; have n0_ := Aside0.mk (Kd.R_below (by (with_reducible repeat first | apply Kd.R_alloc | apply Kd.R_drewN | apply Kd.R_drew); exact HO226.out) hb); have n1_ := Aside0.mk (Kd.R_below (by (with_reducible repeat first | apply Kd.R_alloc | apply Kd.R_drewN | apply Kd.R_drew); exact HO230.out) hb); have n2_ := Aside0.mk (Kd.R_elder' (by (with_reducible repeat first | apply Kd.R_alloc | apply Kd.R_drewN | apply Kd.R_drew); exact HO235.out) (Kd.R_base ho0) hb); have n3_ := Aside0.mk (Kd.R_elder' (by (with_reducible repeat first | apply Kd.R_alloc | apply Kd.R_drewN | apply Kd.R_drew); exact HO239.out) (Kd.R_base ho0) hb); have n4_ := Aside0.mk (Kd.R_lower (Kd.R_new' (Kd.R_new' ho0 (Kd.R_lt (by (with_reducible repeat first | apply Kd.R_alloc | apply Kd.R_drewN | apply Kd.R_drew); exact HO235.out))) (Kd.R_lt (by (with_reducible repeat first | apply Kd.R_alloc | apply Kd.R_drewN | apply Kd.R_drew); exact HO239.out))) (below_size (by repeat (first | (with_reducible first | exact HB.out | apply below_alloc | apply pw_below_drewN | apply below_drew1 | refine below_set ?_ GE227.out) | exact HB.out)))); have n5_ := Aside0.mk (blk_below (g := gb227) (o := .cells #[.int .i64 t221, .int .i64 t222, .int .i64 t223, .slice Ao24 t224.length co24] 27 (0, 0)) (by (with_reducible repeat first | refine blk_drewN ?_ _ | refine blk_drew ?_ | refine blk_alloc ?_ _); exact BK227.out) hb); have n6_ := Aside0.mk (below_step (by repeat (first | (with_reducible first | exact HB.out | apply below_alloc | apply pw_below_drewN | apply below_drew1 | refine below_set ?_ GE227.out) | exact HB.out)) hb); clear HO226; clear HO230; clear HO235; clear HO239; clear BK227; clear HB; have HO226 := n0_; have HO230 := n1_; have HO235 := n2_; have HO239 := n3_; have HO243 := n4_; have BK227 := n5_; have HB := n6_; clear n0_ n1_ n2_ n3_ n4_ n5_ n6_; (try clear hb); (try clear hb2); (try clear hk); (try clear hi); (try clear ho0); have hcz33_0 : w32.cell? ⟨gb227, 0, none⟩ = some (.int .i64 t221) := (blk_cell BK227.out 0).trans rfl; have hcz33_1 : w32.cell? ⟨gb227, 1, none⟩ = some (.int .i64 t222) := (blk_cell BK227.out 1).trans rfl; have hcz33_2 : w32.cell? ⟨gb227, 2, none⟩ = some (.int .i64 t223) := (blk_cell BK227.out 2).trans rfl; have hcz33_3 : w32.cell? ⟨gb227, 3, none⟩ = some (.slice Ao24 t224.length co24) := (blk_cell BK227.out 3).trans rfl; have hfz33_0 := blk_frozen BK227.out 0; have hfz33_1 := blk_frozen BK227.out 1; have hfz33_2 := blk_frozen BK227.out 2; have hfz33_3 := blk_frozen BK227.out 3) | (go_at_call 27; (with_reducible refine (level_Leads.calls k t221 t222 t223 _ _ t224 _ _ t228 4611686018427387904 t245 t248 _ ?side1 ?side2 ?side3 ?side4 A18.out).mono ?_); (case side1 => repeat (first | exact (Kd.R_reads' HO226.out).2.2 | (with_reducible refine Kd.C_alloc ?_ _) | (with_reducible refine Kd.C_drewN ?_ _) | (with_reducible refine Kd.C_drew ?_))); (case side2 => exact (Kd.R_reads' HO226.out).2.1); (case side3 => repeat (first | exact (Kd.R_reads' HO230.out).2.2 | (with_reducible refine Kd.C_alloc ?_ _) | (with_reducible refine Kd.C_drewN ?_ _) | (with_reducible refine Kd.C_drew ?_))); (case side4 => exact (Kd.R_reads' HO230.out).2.1); rintro e w34 ⟨v246, rfl, ho0, hb⟩; have n0_ := Aside0.mk (Kd.R_below (by (with_reducible repeat first | apply Kd.R_alloc | apply Kd.R_drewN | apply Kd.R_drew); exact HO226.out) hb); have n1_ := Aside0.mk (Kd.R_below (by (with_reducible repeat first | apply Kd.R_alloc | apply Kd.R_drewN | apply Kd.R_drew); exact HO230.out) hb); have n2_ := Aside0.mk (Kd.R_elder' (by (with_reducible repeat first | apply Kd.R_alloc | apply Kd.R_drewN | apply Kd.R_drew); exact HO235.out) (Kd.R_base ho0) hb); have n3_ := Aside0.mk (Kd.R_elder' (by (with_reducible repeat first | apply Kd.R_alloc | apply Kd.R_drewN | apply Kd.R_drew); exact HO239.out) (Kd.R_base ho0) hb); have n4_ := Aside0.mk (Kd.R_elder' (by (with_reducible repeat first | apply Kd.R_alloc | apply Kd.R_drewN | apply Kd.R_drew); exact HO243.out) (Kd.R_base ho0) hb); have n5_ := Aside0.mk (Kd.R_lower (Kd.R_new' (Kd.R_new' (Kd.R_new' ho0 (Kd.R_lt (by (with_reducible repeat first | apply Kd.R_alloc | apply Kd.R_drewN | apply Kd.R_drew); exact HO235.out))) (Kd.R_lt (by (with_reducible repeat first | apply Kd.R_alloc | apply Kd.R_drewN | apply Kd.R_drew); exact HO239.out))) (Kd.R_lt (by (with_reducible repeat first | apply Kd.R_alloc | apply Kd.R_drewN | apply Kd.R_drew); exact HO243.out))) (below_size (by repeat (first | (with_reducible first | exact HB.out | apply below_alloc | apply pw_below_drewN | apply below_drew1 | refine below_set ?_ GE227.out) | exact HB.out)))); have n6_ := Aside0.mk (blk_below (g := gb227) (o := .cells #[.int .i64 t221, .int .i64 t222, .int .i64 t223, .slice Ao24 t224.length co24] 27 (0, 0)) (by (with_reducible repeat first | refine blk_drewN ?_ _ | refine blk_drew ?_ | refine blk_alloc ?_ _); exact BK227.out) hb); have n7_ := Aside0.mk (below_step (by repeat (first | (with_reducible first | exact HB.out | apply below_alloc | apply pw_below_drewN | apply below_drew1 | refine below_set ?_ GE227.out) | exact HB.out)) hb); clear HO226; clear HO230; clear HO235; clear HO239; clear HO243; clear BK227; clear HB; have HO226 := n0_; have HO230 := n1_; have HO235 := n2_; have HO239 := n3_; have HO243 := n4_; have HO247 := n5_; have BK227 := n6_; have HB := n7_; clear n0_ n1_ n2_ n3_ n4_ n5_ n6_ n7_; (try clear hb); (try clear hb2); (try clear hk); (try clear hi); (try clear ho0)))
  repeat (go_quiet (first | (go_at_call 22; (with_reducible refine (racewaylaw7_shown.calls k  true _ A7.out).mono ?_); rintro e w20 ⟨rfl, hb⟩; have n0_ := Aside0.mk (below_step (by repeat (first | (with_reducible first | exact HB.out | apply below_alloc | apply pw_below_drewN | apply below_drew1) | exact HB.out)) hb); clear HB; have HB := n0_; clear n0_; (try clear hb); (try clear hb2); (try clear hk); (try clear hi)) | (go_at_call 23; (with_reducible refine (racewaylaw7_made.calls k a0 a1 _ _ l2 t221 t222 t223 t224 _ ?side1 ?side2 A9.out).mono ?_); (case side1 => repeat (first | exact (Kd.C_below HR2.out HB.out) | (with_reducible refine Kd.C_alloc ?_ _) | (with_reducible refine Kd.C_drewN ?_ _) | (with_reducible refine Kd.C_drew ?_))); (case side2 => exact HC2.out); rintro e w21 ⟨v225, rfl, ho0, hb⟩; have n0_ := Aside0.mk (Kd.R_lower ho0 (below_size (by repeat (first | (with_reducible first | exact HB.out | apply below_alloc | apply pw_below_drewN | apply below_drew1) | exact HB.out)))); have n1_ := Aside0.mk (below_step (by repeat (first | (with_reducible first | exact HB.out | apply below_alloc | apply pw_below_drewN | apply below_drew1) | exact HB.out)) hb); clear HB; have HO226 := n0_; have HB := n1_; clear n0_ n1_; (try clear hb); (try clear hb2); (try clear hk); (try clear hi); (try clear ho0)) | ((with_reducible refine gate_dst (N := 14) rfl ?_); (try (refine gate_guard (by rfl) ?_; dsimp only)); refine box_event ?hg (N := 14) ?hd (cs := #[.int .i64 0, .int .i64 0, .int .i64 0, .slice none 0 0]) (t := 27) ?hr ?_; (case hd => rfl); (case hg => rfl); (case hr => first | (go_simp; done) | (go_simp; rfl)); intro gb227 hg w22 hbox hb; have n0_ := Aside0.mk (Kd.R_below (by (with_reducible repeat first | apply Kd.R_alloc | apply Kd.R_drewN | apply Kd.R_drew); exact HO226.out) hb); have n1_ := Aside0.mk (below_step (by repeat (first | (with_reducible first | exact HB.out | apply below_alloc | apply pw_below_drewN | apply below_drew1) | exact HB.out)) hb); have n2_ := Aside0.mk (hbox); have n3_ := Aside0.mk ((by rw [hg]; exact (below_size (by repeat (first | (with_reducible first | exact HB.out | apply below_alloc | apply pw_below_drewN | apply below_drew1) | exact HB.out))) : w.heap.size ≤ gb227)); have n4_ := Aside0.mk ((by rw [hg]; exact (below_size (by repeat (first | (with_reducible first | exact HB.out | apply below_alloc | apply pw_below_drewN | apply below_drew1) | exact HB.out))) : w.heap.size ≤ gb227)); clear HO226; clear HB; have HO226 := n0_; have HB := n1_; have BK227 := n2_; have GW227 := n3_; have GE227 := n4_; clear n0_ n1_ n2_ n3_ n4_; clear hb hbox hg; have hcz23_0 : w22.cell? ⟨gb227, 0, none⟩ = some (.int .i64 0) := (blk_cell BK227.out 0).trans rfl; have hcz23_1 : w22.cell? ⟨gb227, 1, none⟩ = some (.int .i64 0) := (blk_cell BK227.out 1).trans rfl; have hcz23_2 : w22.cell? ⟨gb227, 2, none⟩ = some (.int .i64 0) := (blk_cell BK227.out 2).trans rfl; have hcz23_3 : w22.cell? ⟨gb227, 3, none⟩ = some (.slice none 0 0) := (blk_cell BK227.out 3).trans rfl; have hfz23_0 := blk_frozen BK227.out 0; have hfz23_1 := blk_frozen BK227.out 1; have hfz23_2 := blk_frozen BK227.out 2; have hfz23_3 := blk_frozen BK227.out 3; obtain ⟨Ao24, co24, eo24⟩ := Kd.R_slice HO226.out; (first | subst eo24 | skip)) | (go_at_call 24; (with_reducible refine (racewaylaw7_routed.calls k t221 t222 t223 _ _ t224 _ _ l3 t228 _ ?side1 ?side2 ?side3 ?side4 A10.out).mono ?_); (case side1 => refine (Kd.R_reads' (e := 49) (base := w.heap.size) (ok := fun k_ => True) (n := t224.length) (c := co24) ?_).2.2; exact (by (with_reducible repeat first | apply Kd.R_alloc | apply Kd.R_drewN | apply Kd.R_drew); exact (Kd.R_mono (Kd.R_far (p := ⟨gb227, 3, none⟩) (Kd.R_far (p := ⟨gb227, 2, none⟩) (Kd.R_far (p := ⟨gb227, 1, none⟩) (Kd.R_far (p := ⟨gb227, 0, none⟩) (Kd.R_types HO226.out BK227.out (by decide)) (fun _ hk => hk.2) (.int .i64 t221)) (fun _ hk => hk.2) (.int .i64 t222)) (fun _ hk => hk.2) (.int .i64 t223)) (fun _ hk => hk.2) (.slice Ao24 t224.length co24)) (fun _ h_ => h_.1)))); (case side2 => exact (Kd.R_reads' HO226.out).2.1); (case side3 => exact Kd.C_below HR3.out (by repeat (first | (with_reducible first | exact HB.out | apply below_alloc | apply pw_below_drewN | apply below_drew1 | refine below_set ?_ GE227.out) | exact HB.out))); (case side4 => exact HC3.out); rintro e w25 ⟨v229, rfl, ho0, hb⟩; have n0_ := Aside0.mk (Kd.R_below (by (with_reducible repeat first | apply Kd.R_alloc | apply Kd.R_drewN | apply Kd.R_drew); exact (Kd.R_mono (Kd.R_far (p := ⟨gb227, 3, none⟩) (Kd.R_far (p := ⟨gb227, 2, none⟩) (Kd.R_far (p := ⟨gb227, 1, none⟩) (Kd.R_far (p := ⟨gb227, 0, none⟩) (Kd.R_types HO226.out BK227.out (by decide)) (fun _ hk => hk.2) (.int .i64 t221)) (fun _ hk => hk.2) (.int .i64 t222)) (fun _ hk => hk.2) (.int .i64 t223)) (fun _ hk => hk.2) (.slice Ao24 t224.length co24)) (fun _ h_ => h_.1))) hb); have n1_ := Aside0.mk (Kd.R_lower ho0 (below_size (by repeat (first | (with_reducible first | exact HB.out | apply below_alloc | apply pw_below_drewN | apply below_drew1 | refine below_set ?_ GE227.out) | exact HB.out)))); have n2_ := Aside0.mk (blk_below (g := gb227) (o := .cells #[.int .i64 t221, .int .i64 t222, .int .i64 t223, .slice Ao24 t224.length co24] 27 (0, 0)) (by (with_reducible repeat first | refine blk_drewN ?_ _ | refine blk_drew ?_ | refine blk_alloc ?_ _); refine blk_put (cs := #[.int .i64 t221, .int .i64 t222, .int .i64 t223, .slice none 0 0]) ?_ 3 _ rfl; (with_reducible repeat first | refine blk_drewN ?_ _ | refine blk_drew ?_ | refine blk_alloc ?_ _); refine blk_put (cs := #[.int .i64 t221, .int .i64 t222, .int .i64 0, .slice none 0 0]) ?_ 2 _ rfl; (with_reducible repeat first | refine blk_drewN ?_ _ | refine blk_drew ?_ | refine blk_alloc ?_ _); refine blk_put (cs := #[.int .i64 t221, .int .i64 0, .int .i64 0, .slice none 0 0]) ?_ 1 _ rfl; (with_reducible repeat first | refine blk_drewN ?_ _ | refine blk_drew ?_ | refine blk_alloc ?_ _); refine blk_put (cs := #[.int .i64 0, .int .i64 0, .int .i64 0, .slice none 0 0]) ?_ 0 _ rfl; (with_reducible repeat first | refine blk_drewN ?_ _ | refine blk_drew ?_ | refine blk_alloc ?_ _); exact BK227.out) hb); have n3_ := Aside0.mk (below_step (by repeat (first | (with_reducible first | exact HB.out | apply below_alloc | apply pw_below_drewN | apply below_drew1 | refine below_set ?_ GE227.out) | exact HB.out)) hb); clear HO226; clear BK227; clear HB; have HO226 := n0_; have HO230 := n1_; have BK227 := n2_; have HB := n3_; clear n0_ n1_ n2_ n3_; (try clear hb); (try clear hb2); (try clear hk); (try clear hi); (try clear ho0)) | (go_at_call 25; (with_reducible refine (racewaylaw7_pick.calls a4 30 t231 _ A11.out).mono ?_); rintro e w' ⟨rfl, ⟨nd, rfl⟩⟩; (try first | exact ⟨rfl, _, World.drewN_drewN _ _ _⟩ | exact ⟨rfl, _, Eq.trans (World.drewN_drewN _ _ _) (congrArg (World.drewN _) (Nat.add_assoc _ _ _))⟩)) | (go_at_call 25; (with_reducible refine (racewaylaw7_pick.calls a5 30 t232 _ A12.out).mono ?_); rintro e w' ⟨rfl, ⟨nd, rfl⟩⟩; (try first | exact ⟨rfl, _, World.drewN_drewN _ _ _⟩ | exact ⟨rfl, _, Eq.trans (World.drewN_drewN _ _ _) (congrArg (World.drewN _) (Nat.add_assoc _ _ _))⟩); have hcz26_0 : w25.cell? ⟨gb227, 0, none⟩ = some (.int .i64 t221) := (blk_cell BK227.out 0).trans rfl; have hcz26_1 : w25.cell? ⟨gb227, 1, none⟩ = some (.int .i64 t222) := (blk_cell BK227.out 1).trans rfl; have hcz26_2 : w25.cell? ⟨gb227, 2, none⟩ = some (.int .i64 t223) := (blk_cell BK227.out 2).trans rfl; have hcz26_3 : w25.cell? ⟨gb227, 3, none⟩ = some (.slice Ao24 t224.length co24) := (blk_cell BK227.out 3).trans rfl; have hfz26_0 := blk_frozen BK227.out 0; have hfz26_1 := blk_frozen BK227.out 1; have hfz26_2 := blk_frozen BK227.out 2; have hfz26_3 := blk_frozen BK227.out 3; obtain ⟨Ao27, co27, eo27⟩ := Kd.R_slice HO230.out; (first | subst eo27 | skip)) | (go_at_call 26; (with_reducible refine (level_Levels.calls k t221 t222 t223 _ _ t224 _ _ t228 (wrap64 (1 + (ji13))) t233 t236 _ ?side1 ?side2 ?side3 ?side4 A15.out).mono ?_); (case side1 => repeat (first | exact (Kd.R_reads' HO226.out).2.2 | (with_reducible refine Kd.C_alloc ?_ _) | (with_reducible refine Kd.C_drewN ?_ _) | (with_reducible refine Kd.C_drew ?_))); (case side2 => exact (Kd.R_reads' HO226.out).2.1); (case side3 => repeat (first | exact (Kd.R_reads' HO230.out).2.2 | (with_reducible refine Kd.C_alloc ?_ _) | (with_reducible refine Kd.C_drewN ?_ _) | (with_reducible refine Kd.C_drew ?_))); (case side4 => exact (Kd.R_reads' HO230.out).2.1); rintro e w28 ⟨v234, rfl, ho0, hb⟩; have n0_ := Aside0.mk (Kd.R_below (by (with_reducible repeat first | apply Kd.R_alloc | apply Kd.R_drewN | apply Kd.R_drew); exact HO226.out) hb); have n1_ := Aside0.mk (Kd.R_below (by (with_reducible repeat first | apply Kd.R_alloc | apply Kd.R_drewN | apply Kd.R_drew); exact HO230.out) hb); have n2_ := Aside0.mk (Kd.R_lower ho0 (below_size (by repeat (first | (with_reducible first | exact HB.out | apply below_alloc | apply pw_below_drewN | apply below_drew1 | refine below_set ?_ GE227.out) | exact HB.out)))); have n3_ := Aside0.mk (blk_below (g := gb227) (o := .cells #[.int .i64 t221, .int .i64 t222, .int .i64 t223, .slice Ao24 t224.length co24] 27 (0, 0)) (by (with_reducible repeat first | refine blk_drewN ?_ _ | refine blk_drew ?_ | refine blk_alloc ?_ _); exact BK227.out) hb); have n4_ := Aside0.mk (below_step (by repeat (first | (with_reducible first | exact HB.out | apply below_alloc | apply pw_below_drewN | apply below_drew1 | refine below_set ?_ GE227.out) | exact HB.out)) hb); clear HO226; clear HO230; clear BK227; clear HB; have HO226 := n0_; have HO230 := n1_; have HO235 := n2_; have BK227 := n3_; have HB := n4_; clear n0_ n1_ n2_ n3_ n4_; (try clear hb); (try clear hb2); (try clear hk); (try clear hi); (try clear ho0); have hcz29_0 : w28.cell? ⟨gb227, 0, none⟩ = some (.int .i64 t221) := (blk_cell BK227.out 0).trans rfl; have hcz29_1 : w28.cell? ⟨gb227, 1, none⟩ = some (.int .i64 t222) := (blk_cell BK227.out 1).trans rfl; have hcz29_2 : w28.cell? ⟨gb227, 2, none⟩ = some (.int .i64 t223) := (blk_cell BK227.out 2).trans rfl; have hcz29_3 : w28.cell? ⟨gb227, 3, none⟩ = some (.slice Ao24 t224.length co24) := (blk_cell BK227.out 3).trans rfl; have hfz29_0 := blk_frozen BK227.out 0; have hfz29_1 := blk_frozen BK227.out 1; have hfz29_2 := blk_frozen BK227.out 2; have hfz29_3 := blk_frozen BK227.out 3) | (go_at_call 26; (with_reducible refine (level_Levels.calls k t221 t222 t223 _ _ t224 _ _ t228 (wrap64 (1 + (ji14))) t237 t240 _ ?side1 ?side2 ?side3 ?side4 A16.out).mono ?_); (case side1 => repeat (first | exact (Kd.R_reads' HO226.out).2.2 | (with_reducible refine Kd.C_alloc ?_ _) | (with_reducible refine Kd.C_drewN ?_ _) | (with_reducible refine Kd.C_drew ?_))); (case side2 => exact (Kd.R_reads' HO226.out).2.1); (case side3 => repeat (first | exact (Kd.R_reads' HO230.out).2.2 | (with_reducible refine Kd.C_alloc ?_ _) | (with_reducible refine Kd.C_drewN ?_ _) | (with_reducible refine Kd.C_drew ?_))); (case side4 => exact (Kd.R_reads' HO230.out).2.1); rintro e w30 ⟨v238, rfl, ho0, hb⟩; have n0_ := Aside0.mk (Kd.R_below (by (with_reducible repeat first | apply Kd.R_alloc | apply Kd.R_drewN | apply Kd.R_drew); exact HO226.out) hb); have n1_ := Aside0.mk (Kd.R_below (by (with_reducible repeat first | apply Kd.R_alloc | apply Kd.R_drewN | apply Kd.R_drew); exact HO230.out) hb); have n2_ := Aside0.mk (Kd.R_elder' (by (with_reducible repeat first | apply Kd.R_alloc | apply Kd.R_drewN | apply Kd.R_drew); exact HO235.out) (Kd.R_base ho0) hb); have n3_ := Aside0.mk (Kd.R_lower (Kd.R_new' ho0 (Kd.R_lt (by (with_reducible repeat first | apply Kd.R_alloc | apply Kd.R_drewN | apply Kd.R_drew); exact HO235.out))) (below_size (by repeat (first | (with_reducible first | exact HB.out | apply below_alloc | apply pw_below_drewN | apply below_drew1 | refine below_set ?_ GE227.out) | exact HB.out)))); have n4_ := Aside0.mk (blk_below (g := gb227) (o := .cells #[.int .i64 t221, .int .i64 t222, .int .i64 t223, .slice Ao24 t224.length co24] 27 (0, 0)) (by (with_reducible repeat first | refine blk_drewN ?_ _ | refine blk_drew ?_ | refine blk_alloc ?_ _); exact BK227.out) hb); have n5_ := Aside0.mk (below_step (by repeat (first | (with_reducible first | exact HB.out | apply below_alloc | apply pw_below_drewN | apply below_drew1 | refine below_set ?_ GE227.out) | exact HB.out)) hb); clear HO226; clear HO230; clear HO235; clear BK227; clear HB; have HO226 := n0_; have HO230 := n1_; have HO235 := n2_; have HO239 := n3_; have BK227 := n4_; have HB := n5_; clear n0_ n1_ n2_ n3_ n4_ n5_; (try clear hb); (try clear hb2); (try clear hk); (try clear hi); (try clear ho0); have hcz31_0 : w30.cell? ⟨gb227, 0, none⟩ = some (.int .i64 t221) := (blk_cell BK227.out 0).trans rfl; have hcz31_1 : w30.cell? ⟨gb227, 1, none⟩ = some (.int .i64 t222) := (blk_cell BK227.out 1).trans rfl; have hcz31_2 : w30.cell? ⟨gb227, 2, none⟩ = some (.int .i64 t223) := (blk_cell BK227.out 2).trans rfl; have hcz31_3 : w30.cell? ⟨gb227, 3, none⟩ = some (.slice Ao24 t224.length co24) := (blk_cell BK227.out 3).trans rfl; have hfz31_0 := blk_frozen BK227.out 0; have hfz31_1 := blk_frozen BK227.out 1; have hfz31_2 := blk_frozen BK227.out 2; have hfz31_3 := blk_frozen BK227.out 3) | (go_at_call 26; (with_reducible refine (level_Levels.calls k t221 t222 t223 _ _ t224 _ _ t228 4611686018427387904 t241 t244 _ ?side1 ?side2 ?side3 ?side4 A17.out).mono ?_); (case side1 => repeat (first | exact (Kd.R_reads' HO226.out).2.2 | (with_reducible refine Kd.C_alloc ?_ _) | (with_reducible refine Kd.C_drewN ?_ _) | (with_reducible refine Kd.C_drew ?_))); (case side2 => exact (Kd.R_reads' HO226.out).2.1); (case side3 => repeat (first | exact (Kd.R_reads' HO230.out).2.2 | (with_reducible refine Kd.C_alloc ?_ _) | (with_reducible refine Kd.C_drewN ?_ _) | (with_reducible refine Kd.C_drew ?_))); (case side4 => exact (Kd.R_reads' HO230.out).2.1); rintro e w32 ⟨v242, rfl, ho0, hb⟩; have n0_ := Aside0.mk (Kd.R_below (by (with_reducible repeat first | apply Kd.R_alloc | apply Kd.R_drewN | apply Kd.R_drew); exact HO226.out) hb); have n1_ := Aside0.mk (Kd.R_below (by (with_reducible repeat first | apply Kd.R_alloc | apply Kd.R_drewN | apply Kd.R_drew); exact HO230.out) hb); have n2_ := Aside0.mk (Kd.R_elder' (by (with_reducible repeat first | apply Kd.R_alloc | apply Kd.R_drewN | apply Kd.R_drew); exact HO235.out) (Kd.R_base ho0) hb); have n3_ := Aside0.mk (Kd.R_elder' (by (with_reducible repeat first | apply Kd.R_alloc | apply Kd.R_drewN | apply Kd.R_drew); exact HO239.out) (Kd.R_base ho0) hb); have n4_ := Aside0.mk (Kd.R_lower (Kd.R_new' (Kd.R_new' ho0 (Kd.R_lt (by (with_reducible repeat first | apply Kd.R_alloc | apply Kd.R_drewN | apply Kd.R_drew); exact HO235.out))) (Kd.R_lt (by (with_reducible repeat first | apply Kd.R_alloc | apply Kd.R_drewN | apply Kd.R_drew); exact HO239.out))) (below_size (by repeat (first | (with_reducible first | exact HB.out | apply below_alloc | apply pw_below_drewN | apply below_drew1 | refine below_set ?_ GE227.out) | exact HB.out)))); have n5_ := Aside0.mk (blk_below (g := gb227) (o := .cells #[.int .i64 t221, .int .i64 t222, .int .i64 t223, .slice Ao24 t224.length co24] 27 (0, 0)) (by (with_reducible repeat first | refine blk_drewN ?_ _ | refine blk_drew ?_ | refine blk_alloc ?_ _); exact BK227.out) hb); have n6_ := Aside0.mk (below_step (by repeat (first | (with_reducible first | exact HB.out | apply below_alloc | apply pw_below_drewN | apply below_drew1 | refine below_set ?_ GE227.out) | exact HB.out)) hb); clear HO226; clear HO230; clear HO235; clear HO239; clear BK227; clear HB; have HO226 := n0_; have HO230 := n1_; have HO235 := n2_; have HO239 := n3_; have HO243 := n4_; have BK227 := n5_; have HB := n6_; clear n0_ n1_ n2_ n3_ n4_ n5_ n6_; (try clear hb); (try clear hb2); (try clear hk); (try clear hi); (try clear ho0); have hcz33_0 : w32.cell? ⟨gb227, 0, none⟩ = some (.int .i64 t221) := (blk_cell BK227.out 0).trans rfl; have hcz33_1 : w32.cell? ⟨gb227, 1, none⟩ = some (.int .i64 t222) := (blk_cell BK227.out 1).trans rfl; have hcz33_2 : w32.cell? ⟨gb227, 2, none⟩ = some (.int .i64 t223) := (blk_cell BK227.out 2).trans rfl; have hcz33_3 : w32.cell? ⟨gb227, 3, none⟩ = some (.slice Ao24 t224.length co24) := (blk_cell BK227.out 3).trans rfl; have hfz33_0 := blk_frozen BK227.out 0; have hfz33_1 := blk_frozen BK227.out 1; have hfz33_2 := blk_frozen BK227.out 2; have hfz33_3 := blk_frozen BK227.out 3) | (go_at_call 27; (with_reducible refine (level_Leads.calls k t221 t222 t223 _ _ t224 _ _ t228 4611686018427387904 t245 t248 _ ?side1 ?side2 ?side3 ?side4 A18.out).mono ?_); (case side1 => repeat (first | exact (Kd.R_reads' HO226.out).2.2 | (with_reducible refine Kd.C_alloc ?_ _) | (with_reducible refine Kd.C_drewN ?_ _) | (with_reducible refine Kd.C_drew ?_))); (case side2 => exact (Kd.R_reads' HO226.out).2.1); (case side3 => repeat (first | exact (Kd.R_reads' HO230.out).2.2 | (with_reducible refine Kd.C_alloc ?_ _) | (with_reducible refine Kd.C_drewN ?_ _) | (with_reducible refine Kd.C_drew ?_))); (case side4 => exact (Kd.R_reads' HO230.out).2.1); rintro e w34 ⟨v246, rfl, ho0, hb⟩; have n0_ := Aside0.mk (Kd.R_below (by (with_reducible repeat first | apply Kd.R_alloc | apply Kd.R_drewN | apply Kd.R_drew); exact HO226.out) hb); have n1_ := Aside0.mk (Kd.R_below (by (with_reducible repeat first | apply Kd.R_alloc | apply Kd.R_drewN | apply Kd.R_drew); exact HO230.out) hb); have n2_ := Aside0.mk (Kd.R_elder' (by (with_reducible repeat first | apply Kd.R_alloc | apply Kd.R_drewN | apply Kd.R_drew); exact HO235.out) (Kd.R_base ho0) hb); have n3_ := Aside0.mk (Kd.R_elder' (by (with_reducible repeat first | apply Kd.R_alloc | apply Kd.R_drewN | apply Kd.R_drew); exact HO239.out) (Kd.R_base ho0) hb); have n4_ := Aside0.mk (Kd.R_elder' (by (with_reducible repeat first | apply Kd.R_alloc | apply Kd.R_drewN | apply Kd.R_drew); exact HO243.out) (Kd.R_base ho0) hb); have n5_ := Aside0.mk (Kd.R_lower (Kd.R_new' (Kd.R_new' (Kd.R_new' ho0 (Kd.R_lt (by (with_reducible repeat first | apply Kd.R_alloc | apply Kd.R_drewN | apply Kd.R_drew); exact HO235.out))) (Kd.R_lt (by (with_reducible repeat first | apply Kd.R_alloc | apply Kd.R_drewN | apply Kd.R_drew); exact HO239.out))) (Kd.R_lt (by (with_reducible repeat first | apply Kd.R_alloc | apply Kd.R_drewN | apply Kd.R_drew); exact HO243.out))) (below_size (by repeat (first | (with_reducible first | exact HB.out | apply below_alloc | apply pw_below_drewN | apply below_drew1 | refine below_set ?_ GE227.out) | exact HB.out)))); have n6_ := Aside0.mk (blk_below (g := gb227) (o := .cells #[.int .i64 t221, .int .i64 t222, .int .i64 t223, .slice Ao24 t224.length co24] 27 (0, 0)) (by (with_reducible repeat first | refine blk_drewN ?_ _ | refine blk_drew ?_ | refine blk_alloc ?_ _); exact BK227.out) hb); have n7_ := Aside0.mk (below_step (by repeat (first | (with_reducible first | exact HB.out | apply below_alloc | apply pw_below_drewN | apply below_drew1 | refine below_set ?_ GE227.out) | exact HB.out)) hb); clear HO226; clear HO230; clear HO235; clear HO239; clear HO243; clear BK227; clear HB; have HO226 := n0_; have HO230 := n1_; have HO235 := n2_; have HO239 := n3_; have HO243 := n4_; have HO247 := n5_; have BK227 := n6_; have HB := n7_; clear n0_ n1_ n2_ n3_ n4_ n5_ n6_ n7_; (try clear hb); (try clear hb2); (try clear hk); (try clear hi); (try clear ho0))); go_upto_region 12 with (first | (go_at_call 22; (with_reducible refine (racewaylaw7_shown.calls k  true _ A7.out).mono ?_); rintro e w20 ⟨rfl, hb⟩; have n0_ := Aside0.mk (below_step (by repeat (first | (with_reducible first | exact HB.out | apply below_alloc | apply pw_below_drewN | apply below_drew1) | exact HB.out)) hb); clear HB; have HB := n0_; clear n0_; (try clear hb); (try clear hb2); (try clear hk); (try clear hi)) | (go_at_call 23; (with_reducible refine (racewaylaw7_made.calls k a0 a1 _ _ l2 t221 t222 t223 t224 _ ?side1 ?side2 A9.out).mono ?_); (case side1 => repeat (first | exact (Kd.C_below HR2.out HB.out) | (with_reducible refine Kd.C_alloc ?_ _) | (with_reducible refine Kd.C_drewN ?_ _) | (with_reducible refine Kd.C_drew ?_))); (case side2 => exact HC2.out); rintro e w21 ⟨v225, rfl, ho0, hb⟩; have n0_ := Aside0.mk (Kd.R_lower ho0 (below_size (by repeat (first | (with_reducible first | exact HB.out | apply below_alloc | apply pw_below_drewN | apply below_drew1) | exact HB.out)))); have n1_ := Aside0.mk (below_step (by repeat (first | (with_reducible first | exact HB.out | apply below_alloc | apply pw_below_drewN | apply below_drew1) | exact HB.out)) hb); clear HB; have HO226 := n0_; have HB := n1_; clear n0_ n1_; (try clear hb); (try clear hb2); (try clear hk); (try clear hi); (try clear ho0)) | ((with_reducible refine gate_dst (N := 14) rfl ?_); (try (refine gate_guard (by rfl) ?_; dsimp only)); refine box_event ?hg (N := 14) ?hd (cs := #[.int .i64 0, .int .i64 0, .int .i64 0, .slice none 0 0]) (t := 27) ?hr ?_; (case hd => rfl); (case hg => rfl); (case hr => first | (go_simp; done) | (go_simp; rfl)); intro gb227 hg w22 hbox hb; have n0_ := Aside0.mk (Kd.R_below (by (with_reducible repeat first | apply Kd.R_alloc | apply Kd.R_drewN | apply Kd.R_drew); exact HO226.out) hb); have n1_ := Aside0.mk (below_step (by repeat (first | (with_reducible first | exact HB.out | apply below_alloc | apply pw_below_drewN | apply below_drew1) | exact HB.out)) hb); have n2_ := Aside0.mk (hbox); have n3_ := Aside0.mk ((by rw [hg]; exact (below_size (by repeat (first | (with_reducible first | exact HB.out | apply below_alloc | apply pw_below_drewN | apply below_drew1) | exact HB.out))) : w.heap.size ≤ gb227)); have n4_ := Aside0.mk ((by rw [hg]; exact (below_size (by repeat (first | (with_reducible first | exact HB.out | apply below_alloc | apply pw_below_drewN | apply below_drew1) | exact HB.out))) : w.heap.size ≤ gb227)); clear HO226; clear HB; have HO226 := n0_; have HB := n1_; have BK227 := n2_; have GW227 := n3_; have GE227 := n4_; clear n0_ n1_ n2_ n3_ n4_; clear hb hbox hg; have hcz23_0 : w22.cell? ⟨gb227, 0, none⟩ = some (.int .i64 0) := (blk_cell BK227.out 0).trans rfl; have hcz23_1 : w22.cell? ⟨gb227, 1, none⟩ = some (.int .i64 0) := (blk_cell BK227.out 1).trans rfl; have hcz23_2 : w22.cell? ⟨gb227, 2, none⟩ = some (.int .i64 0) := (blk_cell BK227.out 2).trans rfl; have hcz23_3 : w22.cell? ⟨gb227, 3, none⟩ = some (.slice none 0 0) := (blk_cell BK227.out 3).trans rfl; have hfz23_0 := blk_frozen BK227.out 0; have hfz23_1 := blk_frozen BK227.out 1; have hfz23_2 := blk_frozen BK227.out 2; have hfz23_3 := blk_frozen BK227.out 3; obtain ⟨Ao24, co24, eo24⟩ := Kd.R_slice HO226.out; (first | subst eo24 | skip)) | (go_at_call 24; (with_reducible refine (racewaylaw7_routed.calls k t221 t222 t223 _ _ t224 _ _ l3 t228 _ ?side1 ?side2 ?side3 ?side4 A10.out).mono ?_); (case side1 => refine (Kd.R_reads' (e := 49) (base := w.heap.size) (ok := fun k_ => True) (n := t224.length) (c := co24) ?_).2.2; exact (by (with_reducible repeat first | apply Kd.R_alloc | apply Kd.R_drewN | apply Kd.R_drew); exact (Kd.R_mono (Kd.R_far (p := ⟨gb227, 3, none⟩) (Kd.R_far (p := ⟨gb227, 2, none⟩) (Kd.R_far (p := ⟨gb227, 1, none⟩) (Kd.R_far (p := ⟨gb227, 0, none⟩) (Kd.R_types HO226.out BK227.out (by decide)) (fun _ hk => hk.2) (.int .i64 t221)) (fun _ hk => hk.2) (.int .i64 t222)) (fun _ hk => hk.2) (.int .i64 t223)) (fun _ hk => hk.2) (.slice Ao24 t224.length co24)) (fun _ h_ => h_.1)))); (case side2 => exact (Kd.R_reads' HO226.out).2.1); (case side3 => exact Kd.C_below HR3.out (by repeat (first | (with_reducible first | exact HB.out | apply below_alloc | apply pw_below_drewN | apply below_drew1 | refine below_set ?_ GE227.out) | exact HB.out))); (case side4 => exact HC3.out); rintro e w25 ⟨v229, rfl, ho0, hb⟩; have n0_ := Aside0.mk (Kd.R_below (by (with_reducible repeat first | apply Kd.R_alloc | apply Kd.R_drewN | apply Kd.R_drew); exact (Kd.R_mono (Kd.R_far (p := ⟨gb227, 3, none⟩) (Kd.R_far (p := ⟨gb227, 2, none⟩) (Kd.R_far (p := ⟨gb227, 1, none⟩) (Kd.R_far (p := ⟨gb227, 0, none⟩) (Kd.R_types HO226.out BK227.out (by decide)) (fun _ hk => hk.2) (.int .i64 t221)) (fun _ hk => hk.2) (.int .i64 t222)) (fun _ hk => hk.2) (.int .i64 t223)) (fun _ hk => hk.2) (.slice Ao24 t224.length co24)) (fun _ h_ => h_.1))) hb); have n1_ := Aside0.mk (Kd.R_lower ho0 (below_size (by repeat (first | (with_reducible first | exact HB.out | apply below_alloc | apply pw_below_drewN | apply below_drew1 | refine below_set ?_ GE227.out) | exact HB.out)))); have n2_ := Aside0.mk (blk_below (g := gb227) (o := .cells #[.int .i64 t221, .int .i64 t222, .int .i64 t223, .slice Ao24 t224.length co24] 27 (0, 0)) (by (with_reducible repeat first | refine blk_drewN ?_ _ | refine blk_drew ?_ | refine blk_alloc ?_ _); refine blk_put (cs := #[.int .i64 t221, .int .i64 t222, .int .i64 t223, .slice none 0 0]) ?_ 3 _ rfl; (with_reducible repeat first | refine blk_drewN ?_ _ | refine blk_drew ?_ | refine blk_alloc ?_ _); refine blk_put (cs := #[.int .i64 t221, .int .i64 t222, .int .i64 0, .slice none 0 0]) ?_ 2 _ rfl; (with_reducible repeat first | refine blk_drewN ?_ _ | refine blk_drew ?_ | refine blk_alloc ?_ _); refine blk_put (cs := #[.int .i64 t221, .int .i64 0, .int .i64 0, .slice none 0 0]) ?_ 1 _ rfl; (with_reducible repeat first | refine blk_drewN ?_ _ | refine blk_drew ?_ | refine blk_alloc ?_ _); refine blk_put (cs := #[.int .i64 0, .int .i64 0, .int .i64 0, .slice none 0 0]) ?_ 0 _ rfl; (with_reducible repeat first | refine blk_drewN ?_ _ | refine blk_drew ?_ | refine blk_alloc ?_ _); exact BK227.out) hb); have n3_ := Aside0.mk (below_step (by repeat (first | (with_reducible first | exact HB.out | apply below_alloc | apply pw_below_drewN | apply below_drew1 | refine below_set ?_ GE227.out) | exact HB.out)) hb); clear HO226; clear BK227; clear HB; have HO226 := n0_; have HO230 := n1_; have BK227 := n2_; have HB := n3_; clear n0_ n1_ n2_ n3_; (try clear hb); (try clear hb2); (try clear hk); (try clear hi); (try clear ho0)) | (go_at_call 25; (with_reducible refine (racewaylaw7_pick.calls a4 30 t231 _ A11.out).mono ?_); rintro e w' ⟨rfl, ⟨nd, rfl⟩⟩; (try first | exact ⟨rfl, _, World.drewN_drewN _ _ _⟩ | exact ⟨rfl, _, Eq.trans (World.drewN_drewN _ _ _) (congrArg (World.drewN _) (Nat.add_assoc _ _ _))⟩)) | (go_at_call 25; (with_reducible refine (racewaylaw7_pick.calls a5 30 t232 _ A12.out).mono ?_); rintro e w' ⟨rfl, ⟨nd, rfl⟩⟩; (try first | exact ⟨rfl, _, World.drewN_drewN _ _ _⟩ | exact ⟨rfl, _, Eq.trans (World.drewN_drewN _ _ _) (congrArg (World.drewN _) (Nat.add_assoc _ _ _))⟩); have hcz26_0 : w25.cell? ⟨gb227, 0, none⟩ = some (.int .i64 t221) := (blk_cell BK227.out 0).trans rfl; have hcz26_1 : w25.cell? ⟨gb227, 1, none⟩ = some (.int .i64 t222) := (blk_cell BK227.out 1).trans rfl; have hcz26_2 : w25.cell? ⟨gb227, 2, none⟩ = some (.int .i64 t223) := (blk_cell BK227.out 2).trans rfl; have hcz26_3 : w25.cell? ⟨gb227, 3, none⟩ = some (.slice Ao24 t224.length co24) := (blk_cell BK227.out 3).trans rfl; have hfz26_0 := blk_frozen BK227.out 0; have hfz26_1 := blk_frozen BK227.out 1; have hfz26_2 := blk_frozen BK227.out 2; have hfz26_3 := blk_frozen BK227.out 3; obtain ⟨Ao27, co27, eo27⟩ := Kd.R_slice HO230.out; (first | subst eo27 | skip)) | (go_at_call 26; (with_reducible refine (level_Levels.calls k t221 t222 t223 _ _ t224 _ _ t228 (wrap64 (1 + (ji13))) t233 t236 _ ?side1 ?side2 ?side3 ?side4 A15.out).mono ?_); (case side1 => repeat (first | exact (Kd.R_reads' HO226.out).2.2 | (with_reducible refine Kd.C_alloc ?_ _) | (with_reducible refine Kd.C_drewN ?_ _) | (with_reducible refine Kd.C_drew ?_))); (case side2 => exact (Kd.R_reads' HO226.out).2.1); (case side3 => repeat (first | exact (Kd.R_reads' HO230.out).2.2 | (with_reducible refine Kd.C_alloc ?_ _) | (with_reducible refine Kd.C_drewN ?_ _) | (with_reducible refine Kd.C_drew ?_))); (case side4 => exact (Kd.R_reads' HO230.out).2.1); rintro e w28 ⟨v234, rfl, ho0, hb⟩; have n0_ := Aside0.mk (Kd.R_below (by (with_reducible repeat first | apply Kd.R_alloc | apply Kd.R_drewN | apply Kd.R_drew); exact HO226.out) hb); have n1_ := Aside0.mk (Kd.R_below (by (with_reducible repeat first | apply Kd.R_alloc | apply Kd.R_drewN | apply Kd.R_drew); exact HO230.out) hb); have n2_ := Aside0.mk (Kd.R_lower ho0 (below_size (by repeat (first | (with_reducible first | exact HB.out | apply below_alloc | apply pw_below_drewN | apply below_drew1 | refine below_set ?_ GE227.out) | exact HB.out)))); have n3_ := Aside0.mk (blk_below (g := gb227) (o := .cells #[.int .i64 t221, .int .i64 t222, .int .i64 t223, .slice Ao24 t224.length co24] 27 (0, 0)) (by (with_reducible repeat first | refine blk_drewN ?_ _ | refine blk_drew ?_ | refine blk_alloc ?_ _); exact BK227.out) hb); have n4_ := Aside0.mk (below_step (by repeat (first | (with_reducible first | exact HB.out | apply below_alloc | apply pw_below_drewN | apply below_drew1 | refine below_set ?_ GE227.out) | exact HB.out)) hb); clear HO226; clear HO230; clear BK227; clear HB; have HO226 := n0_; have HO230 := n1_; have HO235 := n2_; have BK227 := n3_; have HB := n4_; clear n0_ n1_ n2_ n3_ n4_; (try clear hb); (try clear hb2); (try clear hk); (try clear hi); (try clear ho0); have hcz29_0 : w28.cell? ⟨gb227, 0, none⟩ = some (.int .i64 t221) := (blk_cell BK227.out 0).trans rfl; have hcz29_1 : w28.cell? ⟨gb227, 1, none⟩ = some (.int .i64 t222) := (blk_cell BK227.out 1).trans rfl; have hcz29_2 : w28.cell? ⟨gb227, 2, none⟩ = some (.int .i64 t223) := (blk_cell BK227.out 2).trans rfl; have hcz29_3 : w28.cell? ⟨gb227, 3, none⟩ = some (.slice Ao24 t224.length co24) := (blk_cell BK227.out 3).trans rfl; have hfz29_0 := blk_frozen BK227.out 0; have hfz29_1 := blk_frozen BK227.out 1; have hfz29_2 := blk_frozen BK227.out 2; have hfz29_3 := blk_frozen BK227.out 3) | (go_at_call 26; (with_reducible refine (level_Levels.calls k t221 t222 t223 _ _ t224 _ _ t228 (wrap64 (1 + (ji14))) t237 t240 _ ?side1 ?side2 ?side3 ?side4 A16.out).mono ?_); (case side1 => repeat (first | exact (Kd.R_reads' HO226.out).2.2 | (with_reducible refine Kd.C_alloc ?_ _) | (with_reducible refine Kd.C_drewN ?_ _) | (with_reducible refine Kd.C_drew ?_))); (case side2 => exact (Kd.R_reads' HO226.out).2.1); (case side3 => repeat (first | exact (Kd.R_reads' HO230.out).2.2 | (with_reducible refine Kd.C_alloc ?_ _) | (with_reducible refine Kd.C_drewN ?_ _) | (with_reducible refine Kd.C_drew ?_))); (case side4 => exact (Kd.R_reads' HO230.out).2.1); rintro e w30 ⟨v238, rfl, ho0, hb⟩; have n0_ := Aside0.mk (Kd.R_below (by (with_reducible repeat first | apply Kd.R_alloc | apply Kd.R_drewN | apply Kd.R_drew); exact HO226.out) hb); have n1_ := Aside0.mk (Kd.R_below (by (with_reducible repeat first | apply Kd.R_alloc | apply Kd.R_drewN | apply Kd.R_drew); exact HO230.out) hb); have n2_ := Aside0.mk (Kd.R_elder' (by (with_reducible repeat first | apply Kd.R_alloc | apply Kd.R_drewN | apply Kd.R_drew); exact HO235.out) (Kd.R_base ho0) hb); have n3_ := Aside0.mk (Kd.R_lower (Kd.R_new' ho0 (Kd.R_lt (by (with_reducible repeat first | apply Kd.R_alloc | apply Kd.R_drewN | apply Kd.R_drew); exact HO235.out))) (below_size (by repeat (first | (with_reducible first | exact HB.out | apply below_alloc | apply pw_below_drewN | apply below_drew1 | refine below_set ?_ GE227.out) | exact HB.out)))); have n4_ := Aside0.mk (blk_below (g := gb227) (o := .cells #[.int .i64 t221, .int .i64 t222, .int .i64 t223, .slice Ao24 t224.length co24] 27 (0, 0)) (by (with_reducible repeat first | refine blk_drewN ?_ _ | refine blk_drew ?_ | refine blk_alloc ?_ _); exact BK227.out) hb); have n5_ := Aside0.mk (below_step (by repeat (first | (with_reducible first | exact HB.out | apply below_alloc | apply pw_below_drewN | apply below_drew1 | refine below_set ?_ GE227.out) | exact HB.out)) hb); clear HO226; clear HO230; clear HO235; clear BK227; clear HB; have HO226 := n0_; have HO230 := n1_; have HO235 := n2_; have HO239 := n3_; have BK227 := n4_; have HB := n5_; clear n0_ n1_ n2_ n3_ n4_ n5_; (try clear hb); (try clear hb2); (try clear hk); (try clear hi); (try clear ho0); have hcz31_0 : w30.cell? ⟨gb227, 0, none⟩ = some (.int .i64 t221) := (blk_cell BK227.out 0).trans rfl; have hcz31_1 : w30.cell? ⟨gb227, 1, none⟩ = some (.int .i64 t222) := (blk_cell BK227.out 1).trans rfl; have hcz31_2 : w30.cell? ⟨gb227, 2, none⟩ = some (.int .i64 t223) := (blk_cell BK227.out 2).trans rfl; have hcz31_3 : w30.cell? ⟨gb227, 3, none⟩ = some (.slice Ao24 t224.length co24) := (blk_cell BK227.out 3).trans rfl; have hfz31_0 := blk_frozen BK227.out 0; have hfz31_1 := blk_frozen BK227.out 1; have hfz31_2 := blk_frozen BK227.out 2; have hfz31_3 := blk_frozen BK227.out 3) | (go_at_call 26; (with_reducible refine (level_Levels.calls k t221 t222 t223 _ _ t224 _ _ t228 4611686018427387904 t241 t244 _ ?side1 ?side2 ?side3 ?side4 A17.out).mono ?_); (case side1 => repeat (first | exact (Kd.R_reads' HO226.out).2.2 | (with_reducible refine Kd.C_alloc ?_ _) | (with_reducible refine Kd.C_drewN ?_ _) | (with_reducible refine Kd.C_drew ?_))); (case side2 => exact (Kd.R_reads' HO226.out).2.1); (case side3 => repeat (first | exact (Kd.R_reads' HO230.out).2.2 | (with_reducible refine Kd.C_alloc ?_ _) | (with_reducible refine Kd.C_drewN ?_ _) | (with_reducible refine Kd.C_drew ?_))); (case side4 => exact (Kd.R_reads' HO230.out).2.1); rintro e w32 ⟨v242, rfl, ho0, hb⟩; have n0_ := Aside0.mk (Kd.R_below (by (with_reducible repeat first | apply Kd.R_alloc | apply Kd.R_drewN | apply Kd.R_drew); exact HO226.out) hb); have n1_ := Aside0.mk (Kd.R_below (by (with_reducible repeat first | apply Kd.R_alloc | apply Kd.R_drewN | apply Kd.R_drew); exact HO230.out) hb); have n2_ := Aside0.mk (Kd.R_elder' (by (with_reducible repeat first | apply Kd.R_alloc | apply Kd.R_drewN | apply Kd.R_drew); exact HO235.out) (Kd.R_base ho0) hb); have n3_ := Aside0.mk (Kd.R_elder' (by (with_reducible repeat first | apply Kd.R_alloc | apply Kd.R_drewN | apply Kd.R_drew); exact HO239.out) (Kd.R_base ho0) hb); have n4_ := Aside0.mk (Kd.R_lower (Kd.R_new' (Kd.R_new' ho0 (Kd.R_lt (by (with_reducible repeat first | apply Kd.R_alloc | apply Kd.R_drewN | apply Kd.R_drew); exact HO235.out))) (Kd.R_lt (by (with_reducible repeat first | apply Kd.R_alloc | apply Kd.R_drewN | apply Kd.R_drew); exact HO239.out))) (below_size (by repeat (first | (with_reducible first | exact HB.out | apply below_alloc | apply pw_below_drewN | apply below_drew1 | refine below_set ?_ GE227.out) | exact HB.out)))); have n5_ := Aside0.mk (blk_below (g := gb227) (o := .cells #[.int .i64 t221, .int .i64 t222, .int .i64 t223, .slice Ao24 t224.length co24] 27 (0, 0)) (by (with_reducible repeat first | refine blk_drewN ?_ _ | refine blk_drew ?_ | refine blk_alloc ?_ _); exact BK227.out) hb); have n6_ := Aside0.mk (below_step (by repeat (first | (with_reducible first | exact HB.out | apply below_alloc | apply pw_below_drewN | apply below_drew1 | refine below_set ?_ GE227.out) | exact HB.out)) hb); clear HO226; clear HO230; clear HO235; clear HO239; clear BK227; clear HB; have HO226 := n0_; have HO230 := n1_; have HO235 := n2_; have HO239 := n3_; have HO243 := n4_; have BK227 := n5_; have HB := n6_; clear n0_ n1_ n2_ n3_ n4_ n5_ n6_; (try clear hb); (try clear hb2); (try clear hk); (try clear hi); (try clear ho0); have hcz33_0 : w32.cell? ⟨gb227, 0, none⟩ = some (.int .i64 t221) := (blk_cell BK227.out 0).trans rfl; have hcz33_1 : w32.cell? ⟨gb227, 1, none⟩ = some (.int .i64 t222) := (blk_cell BK227.out 1).trans rfl; have hcz33_2 : w32.cell? ⟨gb227, 2, none⟩ = some (.int .i64 t223) := (blk_cell BK227.out 2).trans rfl; have hcz33_3 : w32.cell? ⟨gb227, 3, none⟩ = some (.slice Ao24 t224.length co24) := (blk_cell BK227.out 3).trans rfl; have hfz33_0 := blk_frozen BK227.out 0; have hfz33_1 := blk_frozen BK227.out 1; have hfz33_2 := blk_frozen BK227.out 2; have hfz33_3 := blk_frozen BK227.out 3) | (go_at_call 27; (with_reducible refine (level_Leads.calls k t221 t222 t223 _ _ t224 _ _ t228 4611686018427387904 t245 t248 _ ?side1 ?side2 ?side3 ?side4 A18.out).mono ?_); (case side1 => repeat (first | exact (Kd.R_reads' HO226.out).2.2 | (with_reducible refine Kd.C_alloc ?_ _) | (with_reducible refine Kd.C_drewN ?_ _) | (with_reducible refine Kd.C_drew ?_))); (case side2 => exact (Kd.R_reads' HO226.out).2.1); (case side3 => repeat (first | exact (Kd.R_reads' HO230.out).2.2 | (with_reducible refine Kd.C_alloc ?_ _) | (with_reducible refine Kd.C_drewN ?_ _) | (with_reducible refine Kd.C_drew ?_))); (case side4 => exact (Kd.R_reads' HO230.out).2.1); rintro e w34 ⟨v246, rfl, ho0, hb⟩; have n0_ := Aside0.mk (Kd.R_below (by (with_reducible repeat first | apply Kd.R_alloc | apply Kd.R_drewN | apply Kd.R_drew); exact HO226.out) hb); have n1_ := Aside0.mk (Kd.R_below (by (with_reducible repeat first | apply Kd.R_alloc | apply Kd.R_drewN | apply Kd.R_drew); exact HO230.out) hb); have n2_ := Aside0.mk (Kd.R_elder' (by (with_reducible repeat first | apply Kd.R_alloc | apply Kd.R_drewN | apply Kd.R_drew); exact HO235.out) (Kd.R_base ho0) hb); have n3_ := Aside0.mk (Kd.R_elder' (by (with_reducible repeat first | apply Kd.R_alloc | apply Kd.R_drewN | apply Kd.R_drew); exact HO239.out) (Kd.R_base ho0) hb); have n4_ := Aside0.mk (Kd.R_elder' (by (with_reducible repeat first | apply Kd.R_alloc | apply Kd.R_drewN | apply Kd.R_drew); exact HO243.out) (Kd.R_base ho0) hb); have n5_ := Aside0.mk (Kd.R_lower (Kd.R_new' (Kd.R_new' (Kd.R_new' ho0 (Kd.R_lt (by (with_reducible repeat first | apply Kd.R_alloc | apply Kd.R_drewN | apply Kd.R_drew); exact HO235.out))) (Kd.R_lt (by (with_reducible repeat first | apply Kd.R_alloc | apply Kd.R_drewN | apply Kd.R_drew); exact HO239.out))) (Kd.R_lt (by (with_reducible repeat first | apply Kd.R_alloc | apply Kd.R_drewN | apply Kd.R_drew); exact HO243.out))) (below_size (by repeat (first | (with_reducible first | exact HB.out | apply below_alloc | apply pw_below_drewN | apply below_drew1 | refine below_set ?_ GE227.out) | exact HB.out)))); have n6_ := Aside0.mk (blk_below (g := gb227) (o := .cells #[.int .i64 t221, .int .i64 t222, .int .i64 t223, .slice Ao24 t224.length co24] 27 (0, 0)) (by (with_reducible repeat first | refine blk_drewN ?_ _ | refine blk_drew ?_ | refine blk_alloc ?_ _); exact BK227.out) hb); have n7_ := Aside0.mk (below_step (by repeat (first | (with_reducible first | exact HB.out | apply below_alloc | apply pw_below_drewN | apply below_drew1 | refine below_set ?_ GE227.out) | exact HB.out)) hb); clear HO226; clear HO230; clear HO235; clear HO239; clear HO243; clear BK227; clear HB; have HO226 := n0_; have HO230 := n1_; have HO235 := n2_; have HO239 := n3_; have HO243 := n4_; have HO247 := n5_; have BK227 := n6_; have HB := n7_; clear n0_ n1_ n2_ n3_ n4_ n5_ n6_ n7_; (try clear hb); (try clear hb2); (try clear hk); (try clear hi); (try clear ho0))))
  (try simp only [Act.put, List.setIfInBounds_toArray, List.set_cons_zero, List.set_cons_succ])
  go_cut [93] (fun v93 wc => ∃ (kq : Nat) (x93_18 : Bool), v93 = .bool x93_18 ∧ Aside0 (racewaylaw7_LevelRooms.j0 kq t233 t237 t241 x93_18 t221 t222 t223 t224 = some r) ∧ Aside0 (kq ≤ k) ∧ Aside0 (Kd.R (Kd.int .i64) 3 wc w.heap.size (fun k_ => some k_ ≠ (v238 : Value).ownBlock ∧ some k_ ≠ (v242 : Value).ownBlock) v234 t233) ∧ Aside0 (Kd.R (Kd.int .i64) 3 wc w.heap.size (fun k_ => some k_ ≠ (v234 : Value).ownBlock ∧ some k_ ≠ (v242 : Value).ownBlock) v238 t237) ∧ Aside0 (Kd.R (Kd.int .i64) 3 wc w.heap.size (fun k_ => some k_ ≠ (v234 : Value).ownBlock ∧ some k_ ≠ (v238 : Value).ownBlock) v242 t241) ∧ Aside0 (Kd.R k49 49 wc w.heap.size (fun _ => True) (.slice Ao24 t224.length co24) t224) ∧ Aside0 (wc.heap[gb227]? = some (.cells #[.int .i64 t221, .int .i64 t222, .int .i64 t223, (.slice Ao24 t224.length co24)] 27 (0, 0))) ∧ Aside0 (Below w.heap.size w wc))
  case first =>
   have H := HC19.out
   clear HC19
   by_cases c35 : t236 = 0
   ·rw [if_pos c35] at H
    have c35b0 : (t236 == 0) = true := beq_iff_eq.mpr c35
    have c35b1 : (t236 != 0) = false := bne_eq_false_iff_eq.mpr c35
    clear c35
    (first | rw [c35b0] | (simp only [i64_w, i32_w]; rw [c35b0]) | skip)
    by_cases c36 : t240 = 0
    ·rw [if_pos c36] at H
     have c36b0 : (t240 == 0) = true := beq_iff_eq.mpr c36
     have c36b1 : (t240 != 0) = false := bne_eq_false_iff_eq.mpr c36
     clear c36
     by_cases c37 : t244 = 0
     ·rw [if_pos c37] at H
      have c37b0 : (t244 == 0) = true := beq_iff_eq.mpr c37
      have c37b1 : (t244 != 0) = false := bne_eq_false_iff_eq.mpr c37
      clear c37
      by_cases c38 : t248 = 0
      ·rw [if_pos c38] at H
       have c38b0 : (t248 == 0) = true := beq_iff_eq.mpr c38
       have c38b1 : (t248 != 0) = false := bne_eq_false_iff_eq.mpr c38
       clear c38
       have H' := Aside0.mk H
       clear H
       obtain ⟨Ao39, co39, eo39⟩ := Kd.R_slice HO247.out
       subst eo39
       go_wp2
       repeat (go_quiet (fail); try go_wp2)
       go_meet
       case rel => exact ⟨_, (((t245.length : Int) != 0)), (by first | rfl | (simp; done) | (simp [*]; done)), H', ⟨by first | omega | exact Nat.le_refl _⟩, ⟨by (with_reducible repeat first | apply Kd.R_alloc | apply Kd.R_drewN | apply Kd.R_drew); exact Kd.R_mono HO235.out (fun _ hk => ⟨hk.1.1.2, hk.1.2⟩)⟩, ⟨by (with_reducible repeat first | apply Kd.R_alloc | apply Kd.R_drewN | apply Kd.R_drew); exact Kd.R_mono HO239.out (fun _ hk => ⟨hk.1.1.2, hk.1.2⟩)⟩, ⟨by (with_reducible repeat first | apply Kd.R_alloc | apply Kd.R_drewN | apply Kd.R_drew); exact Kd.R_mono HO243.out (fun _ hk => ⟨hk.1.1.2, hk.1.2⟩)⟩, ⟨by (with_reducible repeat first | apply Kd.R_alloc | apply Kd.R_drewN | apply Kd.R_drew); exact HO226.out⟩, ⟨by (with_reducible repeat first | refine blk_drewN ?_ _ | refine blk_drew ?_ | refine blk_alloc ?_ _); exact BK227.out⟩, ⟨by repeat (first | (with_reducible first | exact HB.out | apply below_alloc | apply pw_below_drewN | apply below_drew1 | refine below_set ?_ GE227.out) | exact HB.out)⟩⟩
      ·rw [if_neg c38] at H
       have c38b0 : (t248 == 0) = false := beq_eq_false_iff_ne.mpr c38
       have c38b1 : (t248 != 0) = true := bne_iff_ne.mpr c38
       have H' := Aside0.mk H
       clear H
       go_wp2
       repeat (go_quiet (fail); try go_wp2)
       go_meet
       case rel => exact ⟨_, (true), (by first | rfl | (simp; done) | (simp [*]; done)), H', ⟨by first | omega | exact Nat.le_refl _⟩, ⟨by (with_reducible repeat first | apply Kd.R_alloc | apply Kd.R_drewN | apply Kd.R_drew); exact Kd.R_mono HO235.out (fun _ hk => ⟨hk.1.1.2, hk.1.2⟩)⟩, ⟨by (with_reducible repeat first | apply Kd.R_alloc | apply Kd.R_drewN | apply Kd.R_drew); exact Kd.R_mono HO239.out (fun _ hk => ⟨hk.1.1.2, hk.1.2⟩)⟩, ⟨by (with_reducible repeat first | apply Kd.R_alloc | apply Kd.R_drewN | apply Kd.R_drew); exact Kd.R_mono HO243.out (fun _ hk => ⟨hk.1.1.2, hk.1.2⟩)⟩, ⟨by (with_reducible repeat first | apply Kd.R_alloc | apply Kd.R_drewN | apply Kd.R_drew); exact HO226.out⟩, ⟨by (with_reducible repeat first | refine blk_drewN ?_ _ | refine blk_drew ?_ | refine blk_alloc ?_ _); exact BK227.out⟩, ⟨by repeat (first | (with_reducible first | exact HB.out | apply below_alloc | apply pw_below_drewN | apply below_drew1 | refine below_set ?_ GE227.out) | exact HB.out)⟩⟩
     ·rw [if_neg c37] at H
      have c37b0 : (t244 == 0) = false := beq_eq_false_iff_ne.mpr c37
      have c37b1 : (t244 != 0) = true := bne_iff_ne.mpr c37
      have H' := Aside0.mk H
      clear H
      go_wp2
      repeat (go_quiet (fail); try go_wp2)
      go_meet
      case rel => exact ⟨_, (true), (by first | rfl | (simp; done) | (simp [*]; done)), H', ⟨by first | omega | exact Nat.le_refl _⟩, ⟨by (with_reducible repeat first | apply Kd.R_alloc | apply Kd.R_drewN | apply Kd.R_drew); exact Kd.R_mono HO235.out (fun _ hk => ⟨hk.1.1.2, hk.1.2⟩)⟩, ⟨by (with_reducible repeat first | apply Kd.R_alloc | apply Kd.R_drewN | apply Kd.R_drew); exact Kd.R_mono HO239.out (fun _ hk => ⟨hk.1.1.2, hk.1.2⟩)⟩, ⟨by (with_reducible repeat first | apply Kd.R_alloc | apply Kd.R_drewN | apply Kd.R_drew); exact Kd.R_mono HO243.out (fun _ hk => ⟨hk.1.1.2, hk.1.2⟩)⟩, ⟨by (with_reducible repeat first | apply Kd.R_alloc | apply Kd.R_drewN | apply Kd.R_drew); exact HO226.out⟩, ⟨by (with_reducible repeat first | refine blk_drewN ?_ _ | refine blk_drew ?_ | refine blk_alloc ?_ _); exact BK227.out⟩, ⟨by repeat (first | (with_reducible first | exact HB.out | apply below_alloc | apply pw_below_drewN | apply below_drew1 | refine below_set ?_ GE227.out) | exact HB.out)⟩⟩
    ·rw [if_neg c36] at H
     have c36b0 : (t240 == 0) = false := beq_eq_false_iff_ne.mpr c36
     have c36b1 : (t240 != 0) = true := bne_iff_ne.mpr c36
     have H' := Aside0.mk H
     clear H
     go_wp2
     repeat (go_quiet (fail); try go_wp2)
     go_meet
     case rel => exact ⟨_, (true), (by first | rfl | (simp; done) | (simp [*]; done)), H', ⟨by first | omega | exact Nat.le_refl _⟩, ⟨by (with_reducible repeat first | apply Kd.R_alloc | apply Kd.R_drewN | apply Kd.R_drew); exact Kd.R_mono HO235.out (fun _ hk => ⟨hk.1.1.2, hk.1.2⟩)⟩, ⟨by (with_reducible repeat first | apply Kd.R_alloc | apply Kd.R_drewN | apply Kd.R_drew); exact Kd.R_mono HO239.out (fun _ hk => ⟨hk.1.1.2, hk.1.2⟩)⟩, ⟨by (with_reducible repeat first | apply Kd.R_alloc | apply Kd.R_drewN | apply Kd.R_drew); exact Kd.R_mono HO243.out (fun _ hk => ⟨hk.1.1.2, hk.1.2⟩)⟩, ⟨by (with_reducible repeat first | apply Kd.R_alloc | apply Kd.R_drewN | apply Kd.R_drew); exact HO226.out⟩, ⟨by (with_reducible repeat first | refine blk_drewN ?_ _ | refine blk_drew ?_ | refine blk_alloc ?_ _); exact BK227.out⟩, ⟨by repeat (first | (with_reducible first | exact HB.out | apply below_alloc | apply pw_below_drewN | apply below_drew1 | refine below_set ?_ GE227.out) | exact HB.out)⟩⟩
   ·rw [if_neg c35] at H
    have c35b0 : (t236 == 0) = false := beq_eq_false_iff_ne.mpr c35
    have c35b1 : (t236 != 0) = true := bne_iff_ne.mpr c35
    (first | rw [c35b0] | (simp only [i64_w, i32_w]; rw [c35b0]) | skip)
    have H' := Aside0.mk H
    clear H
    go_wp2
    repeat (go_quiet (fail); try go_wp2)
    go_meet
    case rel => exact ⟨_, (true), (by first | rfl | (simp; done) | (simp [*]; done)), H', ⟨by first | omega | exact Nat.le_refl _⟩, ⟨by (with_reducible repeat first | apply Kd.R_alloc | apply Kd.R_drewN | apply Kd.R_drew); exact Kd.R_mono HO235.out (fun _ hk => ⟨hk.1.1.2, hk.1.2⟩)⟩, ⟨by (with_reducible repeat first | apply Kd.R_alloc | apply Kd.R_drewN | apply Kd.R_drew); exact Kd.R_mono HO239.out (fun _ hk => ⟨hk.1.1.2, hk.1.2⟩)⟩, ⟨by (with_reducible repeat first | apply Kd.R_alloc | apply Kd.R_drewN | apply Kd.R_drew); exact Kd.R_mono HO243.out (fun _ hk => ⟨hk.1.1.2, hk.1.2⟩)⟩, ⟨by (with_reducible repeat first | apply Kd.R_alloc | apply Kd.R_drewN | apply Kd.R_drew); exact HO226.out⟩, ⟨by (with_reducible repeat first | refine blk_drewN ?_ _ | refine blk_drew ?_ | refine blk_alloc ?_ _); exact BK227.out⟩, ⟨by repeat (first | (with_reducible first | exact HB.out | apply below_alloc | apply pw_below_drewN | apply below_drew1 | refine below_set ?_ GE227.out) | exact HB.out)⟩⟩
  case rest =>
   clear HC19
   try clear c2
   try clear p2
   try clear c3
   try clear c4
   try clear p6
   try clear c8
   try clear c35
   try clear c35b0
   try clear c35b1
   try clear c36
   try clear c36b0
   try clear c36b1
   try clear c37
   try clear c37b0
   try clear c37b1
   try clear c38
   try clear c38b0
   try clear c38b1
   try clear hcz23_0
   try clear hcz23_1
   try clear hcz23_2
   try clear hcz23_3
   try clear hcz26_0
   try clear hcz26_1
   try clear hcz26_2
   try clear hcz26_3
   try clear hcz29_0
   try clear hcz29_1
   try clear hcz29_2
   try clear hcz29_3
   try clear hcz31_0
   try clear hcz31_1
   try clear hcz31_2
   try clear hcz31_3
   try clear hcz33_0
   try clear hcz33_1
   try clear hcz33_2
   try clear hcz33_3
   try clear hfz23_0
   try clear hfz23_1
   try clear hfz23_2
   try clear hfz23_3
   try clear hfz26_0
   try clear hfz26_1
   try clear hfz26_2
   try clear hfz26_3
   try clear hfz29_0
   try clear hfz29_1
   try clear hfz29_2
   try clear hfz29_3
   try clear hfz31_0
   try clear hfz31_1
   try clear hfz31_2
   try clear hfz31_3
   try clear hfz33_0
   try clear hfz33_1
   try clear hfz33_2
   try clear hfz33_3
   obtain ⟨kq, x93_18, rfl, HA, HJ18, HO_18, HO_20, HO_22, HO_228003, BK227, HB⟩ := hcut
   cases kq with
   | zero => exact absurd HA.out (by simp [racewaylaw7_LevelRooms.j0])
   | succ kj18 =>
    have H := HA.out
    clear HA
    simp only [racewaylaw7_LevelRooms.j0] at H
    by_cases c40 : x93_18 = true
    ·subst c40
     have H1 : (some false) = some r := by rw [if_pos rfl] at H; exact H
     clear H
     have H := H1
     clear H1
     exact absurd ((Option.some.inj H).trans hrT_.out) (by simp)
    ·replace c40 := Bool.eq_false_iff.mpr c40
     subst c40
     have H1 : (racewaylaw7_LevelRooms.l0 kj18 t233 t237 t241 1 t221 t222 t223 t224) = some r := by rw [if_neg (show ¬ (false = true) by decide)] at H; exact H
     clear H
     have H := H1
     clear H1
     have H' := Aside0.mk H
     clear H
     go_wp2
     repeat (go_quiet (fail); try go_wp2)
     go_loopg [26] kj18 (fun kq v26 w' => ∃ (x26_2 : Int), v26 = .int .i64 x26_2 ∧ Aside0 (racewaylaw7_LevelRooms.l0 kq t233 t237 t241 x26_2 t221 t222 t223 t224 = some r) ∧ Aside0 (kq ≤ kj18) ∧ Aside0 (Kd.R (Kd.int .i64) 3 w' w.heap.size (fun k_ => some k_ ≠ (v238 : Value).ownBlock ∧ some k_ ≠ (v242 : Value).ownBlock) v234 t233) ∧ Aside0 (Kd.R (Kd.int .i64) 3 w' w.heap.size (fun k_ => some k_ ≠ (v234 : Value).ownBlock ∧ some k_ ≠ (v242 : Value).ownBlock) v238 t237) ∧ Aside0 (Kd.R (Kd.int .i64) 3 w' w.heap.size (fun k_ => some k_ ≠ (v234 : Value).ownBlock ∧ some k_ ≠ (v238 : Value).ownBlock) v242 t241) ∧ Aside0 (Kd.R k49 49 w' w.heap.size (fun _ => True) (.slice Ao24 t224.length co24) t224) ∧ Aside0 (w'.heap[gb227]? = some (.cells #[.int .i64 t221, .int .i64 t222, .int .i64 t223, (.slice Ao24 t224.length co24)] 27 (0, 0))) ∧ Aside0 (Below w.heap.size w w'))
     case atStart => exact ⟨(1), (by first | rfl | (simp; done) | (simp [*]; done)), H', ⟨Nat.le_refl _⟩, ⟨by (with_reducible repeat first | apply Kd.R_alloc | apply Kd.R_drewN | apply Kd.R_drew); exact HO_18.out⟩, ⟨by (with_reducible repeat first | apply Kd.R_alloc | apply Kd.R_drewN | apply Kd.R_drew); exact HO_20.out⟩, ⟨by (with_reducible repeat first | apply Kd.R_alloc | apply Kd.R_drewN | apply Kd.R_drew); exact HO_22.out⟩, ⟨by (with_reducible repeat first | apply Kd.R_alloc | apply Kd.R_drewN | apply Kd.R_drew); exact HO_228003.out⟩, ⟨by (with_reducible repeat first | refine blk_drewN ?_ _ | refine blk_drew ?_ | refine blk_alloc ?_ _); exact BK227.out⟩, ⟨by repeat (first | (with_reducible first | exact HB.out | apply below_alloc | apply pw_below_drewN | apply below_drew1 | refine below_set ?_ GE227.out) | exact HB.out)⟩⟩
     case round =>
      clear H'
      try clear c2
      try clear p2
      try clear c3
      try clear c4
      try clear p6
      try clear c8
      try clear c35
      try clear c35b0
      try clear c35b1
      try clear c36
      try clear c36b0
      try clear c36b1
      try clear c37
      try clear c37b0
      try clear c37b1
      try clear c38
      try clear c38b0
      try clear c38b1
      try clear c40
      try clear hcz23_0
      try clear hcz23_1
      try clear hcz23_2
      try clear hcz23_3
      try clear hcz26_0
      try clear hcz26_1
      try clear hcz26_2
      try clear hcz26_3
      try clear hcz29_0
      try clear hcz29_1
      try clear hcz29_2
      try clear hcz29_3
      try clear hcz31_0
      try clear hcz31_1
      try clear hcz31_2
      try clear hcz31_3
      try clear hcz33_0
      try clear hcz33_1
      try clear hcz33_2
      try clear hcz33_3
      try clear hfz23_0
      try clear hfz23_1
      try clear hfz23_2
      try clear hfz23_3
      try clear hfz26_0
      try clear hfz26_1
      try clear hfz26_2
      try clear hfz26_3
      try clear hfz29_0
      try clear hfz29_1
      try clear hfz29_2
      try clear hfz29_3
      try clear hfz31_0
      try clear hfz31_1
      try clear hfz31_2
      try clear hfz31_3
      try clear hfz33_0
      try clear hfz33_1
      try clear hfz33_2
      try clear hfz33_3
      try clear p2
      try clear p6
      obtain ⟨x26_2, rfl, HA, HK2, HO_18, HO_20, HO_22, HO_228003, BK227, HB⟩ := hrel
      cases gk with
      | zero => exact absurd HA.out (by simp [racewaylaw7_LevelRooms.l0])
      | succ k2 =>
       have H := HA.out
       clear HA
       simp only [racewaylaw7_LevelRooms.l0] at H
       by_cases c41 : x26_2 ≤ t221
       ·rw [if_pos c41] at H
        have c41b0 : decide (x26_2 ≤ t221) = true := decide_eq_true c41
        clear c41
        by_cases c42 : 0 ≤ x26_2
        ·rw [if_pos c42] at H
         have c42b0 : decide (0 ≤ x26_2) = true := decide_eq_true c42
         clear c42
         by_cases c43 : x26_2 < (t237.length : Int)
         ·rw [if_pos c43] at H
          have c43b0 : decide (x26_2 < (t237.length : Int)) = true := decide_eq_true c43
          clear c43
          by_cases c44 : (rd t237 x26_2) ≥ 0
          ·rw [if_pos c44] at H
           have c44b0 : decide (0 ≤ (rd t237 x26_2)) = true := decide_eq_true c44
           clear c44
           by_cases c45 : x26_2 < (t233.length : Int)
           ·rw [if_pos c45] at H
            have c45b0 : decide (x26_2 < (t233.length : Int)) = true := decide_eq_true c45
            clear c45
            by_cases c46 : (rd t233 x26_2) < 0
            ·rw [if_pos c46] at H
             have c46b0 : decide ((rd t233 x26_2) < 0) = true := decide_eq_true c46
             clear c46
             exact absurd ((Option.some.inj H).trans hrT_.out) (by simp)
            ·rw [if_neg c46] at H
             have c46b0 : decide ((rd t233 x26_2) < 0) = false := decide_eq_false c46
             clear c46
             by_cases c47 : (rd t233 x26_2) > (rd t237 x26_2)
             ·rw [if_pos c47] at H
              have c47b0 : decide ((rd t237 x26_2) < (rd t233 x26_2)) = true := decide_eq_true c47
              clear c47
              exact absurd ((Option.some.inj H).trans hrT_.out) (by simp)
             ·rw [if_neg c47] at H
              have c47b0 : decide ((rd t237 x26_2) < (rd t233 x26_2)) = false := decide_eq_false c47
              clear c47
              by_cases c48 : x26_2 < (t241.length : Int)
              ·rw [if_pos c48] at H
               have c48b0 : decide (x26_2 < (t241.length : Int)) = true := decide_eq_true c48
               clear c48
               by_cases c49 : (rd t241 x26_2) > 0
               ·rw [if_pos c49] at H
                have c49b0 : decide (0 < (rd t241 x26_2)) = true := decide_eq_true c49
                clear c49
                exact absurd ((Option.some.inj H).trans hrT_.out) (by simp)
               ·rw [if_neg c49] at H
                have c49b0 : decide (0 < (rd t241 x26_2)) = false := decide_eq_false c49
                clear c49
                by_cases c50 : (rd t241 x26_2) = 0
                ·rw [if_pos c50] at H
                 have c50b0 : ((rd t241 x26_2) == 0) = true := beq_iff_eq.mpr c50
                 have c50b1 : ((rd t241 x26_2) != 0) = false := bne_eq_false_iff_eq.mpr c50
                 clear c50
                 by_cases c51 : x26_2 = t222
                 ·rw [if_pos c51] at H
                  have c51b0 : (x26_2 == t222) = true := beq_iff_eq.mpr c51
                  have c51b1 : (x26_2 != t222) = false := bne_eq_false_iff_eq.mpr c51
                  clear c51
                  have H' := Aside0.mk H
                  clear H
                  have hcz52_0 : wr.cell? ⟨gb227, 0, none⟩ = some (.int .i64 t221) := (blk_cell BK227.out 0).trans rfl
                  have hcz52_1 : wr.cell? ⟨gb227, 1, none⟩ = some (.int .i64 t222) := (blk_cell BK227.out 1).trans rfl
                  have hcz52_2 : wr.cell? ⟨gb227, 2, none⟩ = some (.int .i64 t223) := (blk_cell BK227.out 2).trans rfl
                  have hcz52_3 : wr.cell? ⟨gb227, 3, none⟩ = some (.slice Ao24 t224.length co24) := (blk_cell BK227.out 3).trans rfl
                  have hfz52_0 := blk_frozen BK227.out 0
                  have hfz52_1 := blk_frozen BK227.out 1
                  have hfz52_2 := blk_frozen BK227.out 2
                  have hfz52_3 := blk_frozen BK227.out 3
                  obtain ⟨Ao53, co53, eo53⟩ := Kd.R_slice HO_20.out
                  subst eo53
                  have p249 : 0 ≤ (x26_2 : Int) := of_decide_eq_true (by first | (with_reducible assumption) | assumption)
                  have q249 : x26_2 < (t237.length : Int) := of_decide_eq_true (by first | (with_reducible assumption) | assumption)
                  obtain ⟨ad249, e249, hx249_0⟩ := Kd.at_int (Kd.R_reads' HO_20.out).2.2 x26_2 p249 q249
                  cases e249
                  replace p249 := eq_true p249
                  replace q249 := eq_true q249
                  obtain ⟨Ao54, co54, eo54⟩ := Kd.R_slice HO_18.out
                  subst eo54
                  have p250 : 0 ≤ (x26_2 : Int) := of_decide_eq_true (by first | (with_reducible assumption) | assumption)
                  have q250 : x26_2 < (t233.length : Int) := of_decide_eq_true (by first | (with_reducible assumption) | assumption)
                  obtain ⟨ad250, e250, hx250_0⟩ := Kd.at_int (Kd.R_reads' HO_18.out).2.2 x26_2 p250 q250
                  cases e250
                  replace p250 := eq_true p250
                  replace q250 := eq_true q250
                  have p251 : 0 ≤ (x26_2 : Int) := of_decide_eq_true (by first | (with_reducible assumption) | assumption)
                  have q251 : x26_2 < (t233.length : Int) := of_decide_eq_true (by first | (with_reducible assumption) | assumption)
                  obtain ⟨ad251, e251, hx251_0⟩ := Kd.at_int (Kd.R_reads' HO_18.out).2.2 x26_2 p251 q251
                  obtain rfl : ad250 = ad251 := (by injection e251)
                  replace p251 := eq_true p251
                  replace q251 := eq_true q251
                  have p252 : 0 ≤ (x26_2 : Int) := of_decide_eq_true (by first | (with_reducible assumption) | assumption)
                  have q252 : x26_2 < (t237.length : Int) := of_decide_eq_true (by first | (with_reducible assumption) | assumption)
                  obtain ⟨ad252, e252, hx252_0⟩ := Kd.at_int (Kd.R_reads' HO_20.out).2.2 x26_2 p252 q252
                  obtain rfl : ad249 = ad252 := (by injection e252)
                  replace p252 := eq_true p252
                  replace q252 := eq_true q252
                  obtain ⟨Ao55, co55, eo55⟩ := Kd.R_slice HO_22.out
                  subst eo55
                  have p253 : 0 ≤ (x26_2 : Int) := of_decide_eq_true (by first | (with_reducible assumption) | assumption)
                  have q253 : x26_2 < (t241.length : Int) := of_decide_eq_true (by first | (with_reducible assumption) | assumption)
                  obtain ⟨ad253, e253, hx253_0⟩ := Kd.at_int (Kd.R_reads' HO_22.out).2.2 x26_2 p253 q253
                  cases e253
                  replace p253 := eq_true p253
                  replace q253 := eq_true q253
                  have p254 : 0 ≤ (x26_2 : Int) := of_decide_eq_true (by first | (with_reducible assumption) | assumption)
                  have q254 : x26_2 < (t241.length : Int) := of_decide_eq_true (by first | (with_reducible assumption) | assumption)
                  obtain ⟨ad254, e254, hx254_0⟩ := Kd.at_int (Kd.R_reads' HO_22.out).2.2 x26_2 p254 q254
                  obtain rfl : ad253 = ad254 := (by injection e254)
                  replace p254 := eq_true p254
                  replace q254 := eq_true q254
                  go_wp2
                  repeat (go_quiet (fail); try go_wp2)
                  go_roundg k2
                  case measure => have := HJ18.out; have := HK2.out; omega
                  case rel => exact ⟨(wrap64 (x26_2 + 1)), (by first | rfl | (simp; done) | (simp [*]; done)), H', ⟨by have := HJ18.out; have := HK2.out; omega⟩, ⟨by (with_reducible repeat first | apply Kd.R_alloc | apply Kd.R_drewN | apply Kd.R_drew); exact HO_18.out⟩, ⟨by (with_reducible repeat first | apply Kd.R_alloc | apply Kd.R_drewN | apply Kd.R_drew); exact HO_20.out⟩, ⟨by (with_reducible repeat first | apply Kd.R_alloc | apply Kd.R_drewN | apply Kd.R_drew); exact HO_22.out⟩, ⟨by (with_reducible repeat first | apply Kd.R_alloc | apply Kd.R_drewN | apply Kd.R_drew); exact HO_228003.out⟩, ⟨by (with_reducible repeat first | refine blk_drewN ?_ _ | refine blk_drew ?_ | refine blk_alloc ?_ _); exact BK227.out⟩, ⟨by repeat (first | (with_reducible first | exact HB.out | apply below_alloc | apply pw_below_drewN | apply below_drew1 | refine below_set ?_ GE227.out) | exact HB.out)⟩⟩
                 ·rw [if_neg c51] at H
                  have c51b0 : (x26_2 == t222) = false := beq_eq_false_iff_ne.mpr c51
                  have c51b1 : (x26_2 != t222) = true := bne_iff_ne.mpr c51
                  exact absurd ((Option.some.inj H).trans hrT_.out) (by simp)
                ·rw [if_neg c50] at H
                 have c50b0 : ((rd t241 x26_2) == 0) = false := beq_eq_false_iff_ne.mpr c50
                 have c50b1 : ((rd t241 x26_2) != 0) = true := bne_iff_ne.mpr c50
                 by_cases c56 : x26_2 = t222
                 ·rw [if_pos c56] at H
                  have c56b0 : (x26_2 == t222) = true := beq_iff_eq.mpr c56
                  have c56b1 : (x26_2 != t222) = false := bne_eq_false_iff_eq.mpr c56
                  clear c56
                  exact absurd ((Option.some.inj H).trans hrT_.out) (by simp)
                 ·rw [if_neg c56] at H
                  have c56b0 : (x26_2 == t222) = false := beq_eq_false_iff_ne.mpr c56
                  have c56b1 : (x26_2 != t222) = true := bne_iff_ne.mpr c56
                  have H' := Aside0.mk H
                  clear H
                  have hcz57_0 : wr.cell? ⟨gb227, 0, none⟩ = some (.int .i64 t221) := (blk_cell BK227.out 0).trans rfl
                  have hcz57_1 : wr.cell? ⟨gb227, 1, none⟩ = some (.int .i64 t222) := (blk_cell BK227.out 1).trans rfl
                  have hcz57_2 : wr.cell? ⟨gb227, 2, none⟩ = some (.int .i64 t223) := (blk_cell BK227.out 2).trans rfl
                  have hcz57_3 : wr.cell? ⟨gb227, 3, none⟩ = some (.slice Ao24 t224.length co24) := (blk_cell BK227.out 3).trans rfl
                  have hfz57_0 := blk_frozen BK227.out 0
                  have hfz57_1 := blk_frozen BK227.out 1
                  have hfz57_2 := blk_frozen BK227.out 2
                  have hfz57_3 := blk_frozen BK227.out 3
                  obtain ⟨Ao58, co58, eo58⟩ := Kd.R_slice HO_20.out
                  subst eo58
                  have p249 : 0 ≤ (x26_2 : Int) := of_decide_eq_true (by first | (with_reducible assumption) | assumption)
                  have q249 : x26_2 < (t237.length : Int) := of_decide_eq_true (by first | (with_reducible assumption) | assumption)
                  obtain ⟨ad249, e249, hx249_0⟩ := Kd.at_int (Kd.R_reads' HO_20.out).2.2 x26_2 p249 q249
                  cases e249
                  replace p249 := eq_true p249
                  replace q249 := eq_true q249
                  obtain ⟨Ao59, co59, eo59⟩ := Kd.R_slice HO_18.out
                  subst eo59
                  have p250 : 0 ≤ (x26_2 : Int) := of_decide_eq_true (by first | (with_reducible assumption) | assumption)
                  have q250 : x26_2 < (t233.length : Int) := of_decide_eq_true (by first | (with_reducible assumption) | assumption)
                  obtain ⟨ad250, e250, hx250_0⟩ := Kd.at_int (Kd.R_reads' HO_18.out).2.2 x26_2 p250 q250
                  cases e250
                  replace p250 := eq_true p250
                  replace q250 := eq_true q250
                  have p251 : 0 ≤ (x26_2 : Int) := of_decide_eq_true (by first | (with_reducible assumption) | assumption)
                  have q251 : x26_2 < (t233.length : Int) := of_decide_eq_true (by first | (with_reducible assumption) | assumption)
                  obtain ⟨ad251, e251, hx251_0⟩ := Kd.at_int (Kd.R_reads' HO_18.out).2.2 x26_2 p251 q251
                  obtain rfl : ad250 = ad251 := (by injection e251)
                  replace p251 := eq_true p251
                  replace q251 := eq_true q251
                  have p252 : 0 ≤ (x26_2 : Int) := of_decide_eq_true (by first | (with_reducible assumption) | assumption)
                  have q252 : x26_2 < (t237.length : Int) := of_decide_eq_true (by first | (with_reducible assumption) | assumption)
                  obtain ⟨ad252, e252, hx252_0⟩ := Kd.at_int (Kd.R_reads' HO_20.out).2.2 x26_2 p252 q252
                  obtain rfl : ad249 = ad252 := (by injection e252)
                  replace p252 := eq_true p252
                  replace q252 := eq_true q252
                  obtain ⟨Ao60, co60, eo60⟩ := Kd.R_slice HO_22.out
                  subst eo60
                  have p253 : 0 ≤ (x26_2 : Int) := of_decide_eq_true (by first | (with_reducible assumption) | assumption)
                  have q253 : x26_2 < (t241.length : Int) := of_decide_eq_true (by first | (with_reducible assumption) | assumption)
                  obtain ⟨ad253, e253, hx253_0⟩ := Kd.at_int (Kd.R_reads' HO_22.out).2.2 x26_2 p253 q253
                  cases e253
                  replace p253 := eq_true p253
                  replace q253 := eq_true q253
                  have p254 : 0 ≤ (x26_2 : Int) := of_decide_eq_true (by first | (with_reducible assumption) | assumption)
                  have q254 : x26_2 < (t241.length : Int) := of_decide_eq_true (by first | (with_reducible assumption) | assumption)
                  obtain ⟨ad254, e254, hx254_0⟩ := Kd.at_int (Kd.R_reads' HO_22.out).2.2 x26_2 p254 q254
                  obtain rfl : ad253 = ad254 := (by injection e254)
                  replace p254 := eq_true p254
                  replace q254 := eq_true q254
                  go_wp2
                  repeat (go_quiet (fail); try go_wp2)
                  go_roundg k2
                  case measure => have := HJ18.out; have := HK2.out; omega
                  case rel => exact ⟨(wrap64 (x26_2 + 1)), (by first | rfl | (simp; done) | (simp [*]; done)), H', ⟨by have := HJ18.out; have := HK2.out; omega⟩, ⟨by (with_reducible repeat first | apply Kd.R_alloc | apply Kd.R_drewN | apply Kd.R_drew); exact HO_18.out⟩, ⟨by (with_reducible repeat first | apply Kd.R_alloc | apply Kd.R_drewN | apply Kd.R_drew); exact HO_20.out⟩, ⟨by (with_reducible repeat first | apply Kd.R_alloc | apply Kd.R_drewN | apply Kd.R_drew); exact HO_22.out⟩, ⟨by (with_reducible repeat first | apply Kd.R_alloc | apply Kd.R_drewN | apply Kd.R_drew); exact HO_228003.out⟩, ⟨by (with_reducible repeat first | refine blk_drewN ?_ _ | refine blk_drew ?_ | refine blk_alloc ?_ _); exact BK227.out⟩, ⟨by repeat (first | (with_reducible first | exact HB.out | apply below_alloc | apply pw_below_drewN | apply below_drew1 | refine below_set ?_ GE227.out) | exact HB.out)⟩⟩
              ·rw [if_neg c48] at H
               exact absurd H (by simp)
           ·rw [if_neg c45] at H
            exact absurd H (by simp)
          ·rw [if_neg c44] at H
           have c44b0 : decide (0 ≤ (rd t237 x26_2)) = false := decide_eq_false c44
           clear c44
           by_cases c61 : x26_2 < (t241.length : Int)
           ·rw [if_pos c61] at H
            have c61b0 : decide (x26_2 < (t241.length : Int)) = true := decide_eq_true c61
            clear c61
            by_cases c62 : (rd t241 x26_2) > 0
            ·rw [if_pos c62] at H
             have c62b0 : decide (0 < (rd t241 x26_2)) = true := decide_eq_true c62
             clear c62
             exact absurd ((Option.some.inj H).trans hrT_.out) (by simp)
            ·rw [if_neg c62] at H
             have c62b0 : decide (0 < (rd t241 x26_2)) = false := decide_eq_false c62
             clear c62
             by_cases c63 : (rd t241 x26_2) = 0
             ·rw [if_pos c63] at H
              have c63b0 : ((rd t241 x26_2) == 0) = true := beq_iff_eq.mpr c63
              have c63b1 : ((rd t241 x26_2) != 0) = false := bne_eq_false_iff_eq.mpr c63
              clear c63
              by_cases c64 : x26_2 = t222
              ·rw [if_pos c64] at H
               have c64b0 : (x26_2 == t222) = true := beq_iff_eq.mpr c64
               have c64b1 : (x26_2 != t222) = false := bne_eq_false_iff_eq.mpr c64
               clear c64
               have H' := Aside0.mk H
               clear H
               have hcz65_0 : wr.cell? ⟨gb227, 0, none⟩ = some (.int .i64 t221) := (blk_cell BK227.out 0).trans rfl
               have hcz65_1 : wr.cell? ⟨gb227, 1, none⟩ = some (.int .i64 t222) := (blk_cell BK227.out 1).trans rfl
               have hcz65_2 : wr.cell? ⟨gb227, 2, none⟩ = some (.int .i64 t223) := (blk_cell BK227.out 2).trans rfl
               have hcz65_3 : wr.cell? ⟨gb227, 3, none⟩ = some (.slice Ao24 t224.length co24) := (blk_cell BK227.out 3).trans rfl
               have hfz65_0 := blk_frozen BK227.out 0
               have hfz65_1 := blk_frozen BK227.out 1
               have hfz65_2 := blk_frozen BK227.out 2
               have hfz65_3 := blk_frozen BK227.out 3
               obtain ⟨Ao66, co66, eo66⟩ := Kd.R_slice HO_20.out
               subst eo66
               have p249 : 0 ≤ (x26_2 : Int) := of_decide_eq_true (by first | (with_reducible assumption) | assumption)
               have q249 : x26_2 < (t237.length : Int) := of_decide_eq_true (by first | (with_reducible assumption) | assumption)
               obtain ⟨ad249, e249, hx249_0⟩ := Kd.at_int (Kd.R_reads' HO_20.out).2.2 x26_2 p249 q249
               cases e249
               replace p249 := eq_true p249
               replace q249 := eq_true q249
               obtain ⟨Ao67, co67, eo67⟩ := Kd.R_slice HO_22.out
               subst eo67
               have p255 : 0 ≤ (x26_2 : Int) := of_decide_eq_true (by first | (with_reducible assumption) | assumption)
               have q255 : x26_2 < (t241.length : Int) := of_decide_eq_true (by first | (with_reducible assumption) | assumption)
               obtain ⟨ad255, e255, hx255_0⟩ := Kd.at_int (Kd.R_reads' HO_22.out).2.2 x26_2 p255 q255
               cases e255
               replace p255 := eq_true p255
               replace q255 := eq_true q255
               have p256 : 0 ≤ (x26_2 : Int) := of_decide_eq_true (by first | (with_reducible assumption) | assumption)
               have q256 : x26_2 < (t241.length : Int) := of_decide_eq_true (by first | (with_reducible assumption) | assumption)
               obtain ⟨ad256, e256, hx256_0⟩ := Kd.at_int (Kd.R_reads' HO_22.out).2.2 x26_2 p256 q256
               obtain rfl : ad255 = ad256 := (by injection e256)
               replace p256 := eq_true p256
               replace q256 := eq_true q256
               go_wp2
               repeat (go_quiet (fail); try go_wp2)
               go_roundg k2
               case measure => have := HJ18.out; have := HK2.out; omega
               case rel => exact ⟨(wrap64 (x26_2 + 1)), (by first | rfl | (simp; done) | (simp [*]; done)), H', ⟨by have := HJ18.out; have := HK2.out; omega⟩, ⟨by (with_reducible repeat first | apply Kd.R_alloc | apply Kd.R_drewN | apply Kd.R_drew); exact HO_18.out⟩, ⟨by (with_reducible repeat first | apply Kd.R_alloc | apply Kd.R_drewN | apply Kd.R_drew); exact HO_20.out⟩, ⟨by (with_reducible repeat first | apply Kd.R_alloc | apply Kd.R_drewN | apply Kd.R_drew); exact HO_22.out⟩, ⟨by (with_reducible repeat first | apply Kd.R_alloc | apply Kd.R_drewN | apply Kd.R_drew); exact HO_228003.out⟩, ⟨by (with_reducible repeat first | refine blk_drewN ?_ _ | refine blk_drew ?_ | refine blk_alloc ?_ _); exact BK227.out⟩, ⟨by repeat (first | (with_reducible first | exact HB.out | apply below_alloc | apply pw_below_drewN | apply below_drew1 | refine below_set ?_ GE227.out) | exact HB.out)⟩⟩
              ·rw [if_neg c64] at H
               have c64b0 : (x26_2 == t222) = false := beq_eq_false_iff_ne.mpr c64
               have c64b1 : (x26_2 != t222) = true := bne_iff_ne.mpr c64
               exact absurd ((Option.some.inj H).trans hrT_.out) (by simp)
             ·rw [if_neg c63] at H
              have c63b0 : ((rd t241 x26_2) == 0) = false := beq_eq_false_iff_ne.mpr c63
              have c63b1 : ((rd t241 x26_2) != 0) = true := bne_iff_ne.mpr c63
              by_cases c68 : x26_2 = t222
              ·rw [if_pos c68] at H
               have c68b0 : (x26_2 == t222) = true := beq_iff_eq.mpr c68
               have c68b1 : (x26_2 != t222) = false := bne_eq_false_iff_eq.mpr c68
               clear c68
               exact absurd ((Option.some.inj H).trans hrT_.out) (by simp)
              ·rw [if_neg c68] at H
               have c68b0 : (x26_2 == t222) = false := beq_eq_false_iff_ne.mpr c68
               have c68b1 : (x26_2 != t222) = true := bne_iff_ne.mpr c68
               have H' := Aside0.mk H
               clear H
               have hcz69_0 : wr.cell? ⟨gb227, 0, none⟩ = some (.int .i64 t221) := (blk_cell BK227.out 0).trans rfl
               have hcz69_1 : wr.cell? ⟨gb227, 1, none⟩ = some (.int .i64 t222) := (blk_cell BK227.out 1).trans rfl
               have hcz69_2 : wr.cell? ⟨gb227, 2, none⟩ = some (.int .i64 t223) := (blk_cell BK227.out 2).trans rfl
               have hcz69_3 : wr.cell? ⟨gb227, 3, none⟩ = some (.slice Ao24 t224.length co24) := (blk_cell BK227.out 3).trans rfl
               have hfz69_0 := blk_frozen BK227.out 0
               have hfz69_1 := blk_frozen BK227.out 1
               have hfz69_2 := blk_frozen BK227.out 2
               have hfz69_3 := blk_frozen BK227.out 3
               obtain ⟨Ao70, co70, eo70⟩ := Kd.R_slice HO_20.out
               subst eo70
               have p249 : 0 ≤ (x26_2 : Int) := of_decide_eq_true (by first | (with_reducible assumption) | assumption)
               have q249 : x26_2 < (t237.length : Int) := of_decide_eq_true (by first | (with_reducible assumption) | assumption)
               obtain ⟨ad249, e249, hx249_0⟩ := Kd.at_int (Kd.R_reads' HO_20.out).2.2 x26_2 p249 q249
               cases e249
               replace p249 := eq_true p249
               replace q249 := eq_true q249
               obtain ⟨Ao71, co71, eo71⟩ := Kd.R_slice HO_22.out
               subst eo71
               have p255 : 0 ≤ (x26_2 : Int) := of_decide_eq_true (by first | (with_reducible assumption) | assumption)
               have q255 : x26_2 < (t241.length : Int) := of_decide_eq_true (by first | (with_reducible assumption) | assumption)
               obtain ⟨ad255, e255, hx255_0⟩ := Kd.at_int (Kd.R_reads' HO_22.out).2.2 x26_2 p255 q255
               cases e255
               replace p255 := eq_true p255
               replace q255 := eq_true q255
               have p256 : 0 ≤ (x26_2 : Int) := of_decide_eq_true (by first | (with_reducible assumption) | assumption)
               have q256 : x26_2 < (t241.length : Int) := of_decide_eq_true (by first | (with_reducible assumption) | assumption)
               obtain ⟨ad256, e256, hx256_0⟩ := Kd.at_int (Kd.R_reads' HO_22.out).2.2 x26_2 p256 q256
               obtain rfl : ad255 = ad256 := (by injection e256)
               replace p256 := eq_true p256
               replace q256 := eq_true q256
               go_wp2
               repeat (go_quiet (fail); try go_wp2)
               go_roundg k2
               case measure => have := HJ18.out; have := HK2.out; omega
               case rel => exact ⟨(wrap64 (x26_2 + 1)), (by first | rfl | (simp; done) | (simp [*]; done)), H', ⟨by have := HJ18.out; have := HK2.out; omega⟩, ⟨by (with_reducible repeat first | apply Kd.R_alloc | apply Kd.R_drewN | apply Kd.R_drew); exact HO_18.out⟩, ⟨by (with_reducible repeat first | apply Kd.R_alloc | apply Kd.R_drewN | apply Kd.R_drew); exact HO_20.out⟩, ⟨by (with_reducible repeat first | apply Kd.R_alloc | apply Kd.R_drewN | apply Kd.R_drew); exact HO_22.out⟩, ⟨by (with_reducible repeat first | apply Kd.R_alloc | apply Kd.R_drewN | apply Kd.R_drew); exact HO_228003.out⟩, ⟨by (with_reducible repeat first | refine blk_drewN ?_ _ | refine blk_drew ?_ | refine blk_alloc ?_ _); exact BK227.out⟩, ⟨by repeat (first | (with_reducible first | exact HB.out | apply below_alloc | apply pw_below_drewN | apply below_drew1 | refine below_set ?_ GE227.out) | exact HB.out)⟩⟩
           ·rw [if_neg c61] at H
            exact absurd H (by simp)
         ·rw [if_neg c43] at H
          exact absurd H (by simp)
        ·rw [if_neg c42] at H
         exact absurd H (by simp)
       ·rw [if_neg c41] at H
        have c41b0 : decide (x26_2 ≤ t221) = false := decide_eq_false c41
        clear c41
        obtain rfl := Option.some.inj H
        have hcz72_0 : wr.cell? ⟨gb227, 0, none⟩ = some (.int .i64 t221) := (blk_cell BK227.out 0).trans rfl
        have hcz72_1 : wr.cell? ⟨gb227, 1, none⟩ = some (.int .i64 t222) := (blk_cell BK227.out 1).trans rfl
        have hcz72_2 : wr.cell? ⟨gb227, 2, none⟩ = some (.int .i64 t223) := (blk_cell BK227.out 2).trans rfl
        have hcz72_3 : wr.cell? ⟨gb227, 3, none⟩ = some (.slice Ao24 t224.length co24) := (blk_cell BK227.out 3).trans rfl
        have hfz72_0 := blk_frozen BK227.out 0
        have hfz72_1 := blk_frozen BK227.out 1
        have hfz72_2 := blk_frozen BK227.out 2
        have hfz72_3 := blk_frozen BK227.out 3
        go_wp2
        repeat (go_quiet (fail); try go_wp2)
        go_ret
        exact ⟨by first | rfl | (simp [errW_none, errW_some] <;> rfl) | (simp only [← hji13, ← hji14]; first | rfl | (simp [errW_none, errW_some] <;> rfl)) | (simp [*, errW_none, errW_some] <;> rfl), by repeat (first | (with_reducible first | exact HB.out | apply below_alloc | apply pw_below_drewN | apply below_drew1 | refine below_set ?_ GE227.out) | exact HB.out)⟩
 ·replace c8 := Bool.eq_false_iff.mpr c8
  subst c8
  have H1 : (some false) = some r := by rw [if_neg (show ¬ (false = true) by decide)] at H; exact H
  clear H
  have H := H1
  clear H1
  exact absurd ((Option.some.inj H).trans hrT_.out) (by simp)
/-- THE ONE PURE STATEMENT of racewaylaw7_LevelRooms. -/
def racewaylaw7_LevelRooms.Pure : Prop := ∀ (a0 : Int) (a1 : Int) (l2 : List (S72)) (l3 : List Int) (a4 : Int) (a5 : Int), (Lit.int .i64 a0).wf = true → (Lit.int .i64 a1).wf = true → l2.length ≤ maxLen → (∀ x ∈ l2, (Lit.int .i64 x.f0).wf = true ∧ (Lit.int .i64 x.f1).wf = true ∧ (Lit.int .i64 x.f2).wf = true) → l3.length ≤ maxLen → l3.length * 8 ≤ 140737488351232 → (∀ x ∈ l3, (Lit.int .i64 x).wf = true) → (Lit.int .i64 a4).wf = true → (Lit.int .i64 a5).wf = true → ∃ k, racewaylaw7_LevelRooms.f k a0 a1 l2 l3 a4 a5 = some true
theorem racewaylaw7_LevelRooms.walk (P : racewaylaw7_LevelRooms.Pure) (a0 : Int) (a1 : Int) (A2 : Option Addr) (c2 : Nat) (l2 : List (S72)) (A3 : Option Addr) (c3 : Nat) (l3 : List Int) (a4 : Int) (a5 : Int) (w : World) (w0 : (Lit.int .i64 a0).wf = true) (w1 : (Lit.int .i64 a1).wf = true) (hr2 : Kd.C k72 w A2 l2.length l2) (hc2 : l2.length ≤ c2) (hm2 : l2.length ≤ maxLen) (hw2 : (∀ x ∈ l2, (Lit.int .i64 x.f0).wf = true ∧ (Lit.int .i64 x.f1).wf = true ∧ (Lit.int .i64 x.f2).wf = true)) (hr3 : Kd.C (Kd.int .i64) w A3 l3.length l3) (hc3 : l3.length ≤ c3) (hm3 : l3.length ≤ maxLen) (y3 : l3.length * 8 ≤ 140737488351232) (hw3 : (∀ x ∈ l3, (Lit.int .i64 x).wf = true)) (w4 : (Lit.int .i64 a4).wf = true) (w5 : (Lit.int .i64 a5).wf = true) :
  Calls Try.prog 4 #[.int .i64 a0, .int .i64 a1, .slice A2 l2.length c2, .slice A3 l3.length c3, .int .i64 a4, .int .i64 a5] w fun e w' => e = .returned (.bool true) ∧ Below w.heap.size w w' := by
 obtain ⟨k, h⟩ := P a0 a1 l2 l3 a4 a5 w0 w1 hm2 hw2 hm3 y3 hw3 w4 w5
 refine (racewaylaw7_LevelRooms.calls k a0 a1 _ _ l2 _ _ l3 a4 a5 true w hr2 hc2 hr3 hc3 h ⟨rfl⟩).mono ?_
 rintro e w' ⟨rfl, hd⟩
 exact ⟨rfl, hd⟩
end Go.Proofs.Ytbppeffcikphcaa.PLevelRooms
