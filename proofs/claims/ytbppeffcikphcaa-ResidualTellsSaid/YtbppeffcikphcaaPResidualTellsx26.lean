/- For the law ResidualTells, for every input: printed by a program (wip/myprint), contracts by hand where it says MANUAL. -/
-- slim
import Derived.Test.YtbppeffcikphcaaPResidualTellsx0
import Derived.Test.YtbppeffcikphcaaPResidualTellsx6
import Derived.Test.YtbppeffcikphcaaPResidualTellsx7
import Derived.Test.YtbppeffcikphcaaPResidualTellsx8
import Derived.Test.YtbppeffcikphcaaPResidualTellsx9
import Derived.Test.YtbppeffcikphcaaPResidualTellsx10
import Derived.Test.YtbppeffcikphcaaPResidualTellsx12
import Derived.Test.YtbppeffcikphcaaPResidualTellsx13
import Derived.Test.YtbppeffcikphcaaPResidualTellsx18
import Derived.Test.YtbppeffcikphcaaPResidualTellsx19
import Derived.Test.YtbppeffcikphcaaPResidualTellsx21
import Derived.Test.YtbppeffcikphcaaPResidualTellsx22
import Derived.Test.YtbppeffcikphcaaPResidualTellsx23
import Derived.Test.YtbppeffcikphcaaPResidualTellsx24
import Derived.Test.YtbppeffcikphcaaPResidualTellsx25
namespace Go.Proofs.Ytbppeffcikphcaa.PResidualTells
open Go.RowKit Go.Proofs.YtbppeffcikphcaaW.PrintWords Go.Proofs.YtbppeffcikphcaaW.PrintLast Go.Proofs.YtbppeffcikphcaaW.PrintMore
attribute [local go_sem] max2_int min2_int max_two min_two max_three min_three max_four min_four
set_option linter.unusedVariables false
set_option linter.unusedSimpArgs false
/-! ### racewaylaw6_ResidualTells: function 12 -/
mutual
def racewaylaw6_ResidualTells.j0 : Nat → List Int → List Int → Int → Int → Bool → Bool → Int → Int → Int → List (S49) → Option (Bool)
 | 0, _, _, _, _, _, _, _, _, _, _ => none
 | k + 1, x1, x2, x3, x4, x11, x47, x251000, x251001, x251002, x251003 => if x47 = true then (some x11) else ((residual_Room.f k x251000 x251001 x251002 x251003 x1).bind fun bt252 => ((racewayref6_Room.f k x251000 x251001 x251002 x251003 x1).bind fun bt256 => ((residual_Push.f k x251000 x251001 x251002 x251003 x1 x2 x3).bind fun bt260 => ((racewayref6_Push.f k x251000 x251001 x251002 x251003 x1 x2 x3).bind fun bt264 => ((residual_Reach.f k x251000 x251001 x251002 x251003 x1 x4).bind fun bt268 => ((racewayref6_Reach.f k x251000 x251001 x251002 x251003 x1 x4).bind fun bt272 => ((racewayref5_Same.f k bt252.1 bt256.1).bind fun t276 => (if t276 = true then (if bt252.2 = bt256.2 then ((racewayref5_Same.f k bt260.1 bt264.1).bind fun t277 => (if t277 = true then (if bt260.2 = bt264.2 then ((racewaylaw6_sameBools.f k bt268.1 bt272.1).bind fun t278 => (if t278 = true then (racewaylaw6_ResidualTells.j1 k x2 (bt268.2 != bt272.2) x251000 x251001 x251002 x251003) else (racewaylaw6_ResidualTells.j1 k x2 true x251000 x251001 x251002 x251003))) else (racewaylaw6_ResidualTells.j1 k x2 true x251000 x251001 x251002 x251003)) else (racewaylaw6_ResidualTells.j1 k x2 true x251000 x251001 x251002 x251003))) else (racewaylaw6_ResidualTells.j1 k x2 true x251000 x251001 x251002 x251003)) else (racewaylaw6_ResidualTells.j1 k x2 true x251000 x251001 x251002 x251003)))))))))
def racewaylaw6_ResidualTells.j1 : Nat → List Int → Bool → Int → Int → Int → List (S49) → Option (Bool)
 | 0, _, _, _, _, _, _ => none
 | k + 1, x2, x121, x251000, x251001, x251002, x251003 => if x121 = true then (some false) else (racewaylaw6_ResidualTells.l0 k x2 0 x251000 x251001 x251002 x251003)
def racewaylaw6_ResidualTells.l0 : Nat → List Int → Int → Int → Int → Int → List (S49) → Option (Bool)
 | 0, _, _, _, _, _, _ => none
 | k + 1, x2, x24, x251000, x251001, x251002, x251003 => if x24 < (x2.length : Int) then (if 0 ≤ x24 then ((residual_Ends.f k x251000 x251001 x251002 x251003 (rd x2 x24)).bind fun bt280 => ((racewayref6_Ends.f k x251000 x251001 x251002 x251003 (rd x2 x24)).bind fun bt283 => (if bt280.1 = bt283.1 then (if bt280.2 = bt283.2 then ((residual_From.f k x251000 x251001 x251002 x251003 bt280.1).bind fun t285 => ((racewayref6_From.f k x251000 x251001 x251002 x251003 bt280.1).bind fun t288 => ((racewaylaw6_same.f k t285 t288).bind fun t291 => (if t291 = true then (racewaylaw6_ResidualTells.l0 k x2 (wrap64 (x24 + 1)) x251000 x251001 x251002 x251003) else (some false))))) else (some false)) else (some false)))) else (none)) else (some true)
end
def racewaylaw6_ResidualTells.f (k : Nat) (a0_0 : Int) (a0_1 : Int) (a0_2 : Int) (l0_3 : List (S49)) (l1 : List Int) (l2 : List Int) (a3 : Int) (a4 : Int) : Option (Bool) := (racewaylaw6_shown.f k).bind fun t251 => (if t251 = true then (if (l0_3.length : Int) > 200 then (racewaylaw6_ResidualTells.j0 k l1 l2 a3 a4 t251 true a0_0 a0_1 a0_2 l0_3) else (if a0_0 > 60 then (racewaylaw6_ResidualTells.j0 k l1 l2 a3 a4 t251 true a0_0 a0_1 a0_2 l0_3) else (racewaylaw6_ResidualTells.j0 k l1 l2 a3 a4 t251 (decide ((l2.length : Int) > 100)) a0_0 a0_1 a0_2 l0_3))) else (racewaylaw6_ResidualTells.j0 k l1 l2 a3 a4 t251 true a0_0 a0_1 a0_2 l0_3))
theorem racewaylaw6_ResidualTells.mono_l : ∀ k, (∀ y0 y1 y2 y3 y4 y5 y6 y7 y8 y9, LeO (racewaylaw6_ResidualTells.j0 k y0 y1 y2 y3 y4 y5 y6 y7 y8 y9) (racewaylaw6_ResidualTells.j0 (k + 1) y0 y1 y2 y3 y4 y5 y6 y7 y8 y9)) ∧ (∀ y0 y1 y2 y3 y4 y5, LeO (racewaylaw6_ResidualTells.j1 k y0 y1 y2 y3 y4 y5) (racewaylaw6_ResidualTells.j1 (k + 1) y0 y1 y2 y3 y4 y5)) ∧ (∀ y0 y1 y2 y3 y4 y5, LeO (racewaylaw6_ResidualTells.l0 k y0 y1 y2 y3 y4 y5) (racewaylaw6_ResidualTells.l0 (k + 1) y0 y1 y2 y3 y4 y5))
 | 0 => ⟨fun _ _ _ _ _ _ _ _ _ _ r h => by simp [racewaylaw6_ResidualTells.j0] at h, fun _ _ _ _ _ _ r h => by simp [racewaylaw6_ResidualTells.j1] at h, fun _ _ _ _ _ _ r h => by simp [racewaylaw6_ResidualTells.l0] at h⟩
 | k + 1 => by
  obtain ⟨ih0, ih1, ih2⟩ := racewaylaw6_ResidualTells.mono_l k
  refine ⟨?_, ?_, ?_⟩
  ·intro y0 y1 y2 y3 y4 y5 y6 y7 y8 y9
   unfold racewaylaw6_ResidualTells.j0
   repeat' first
   | (with_reducible exact ih0 _ _ _ _ _ _ _ _ _ _)
   | (with_reducible exact ih1 _ _ _ _ _ _)
   | (with_reducible exact ih2 _ _ _ _ _ _)
   | (with_reducible exact racewaylaw6_same.mono _ _ _)
   | (with_reducible exact racewaylaw6_sameBools.mono _ _ _)
   | (with_reducible exact racewaylaw6_shown.mono _)
   | (with_reducible exact racewayref5_Same.mono _ _ _)
   | (with_reducible exact racewayref6_Ends.mono _ _ _ _ _ _)
   | (with_reducible exact racewayref6_From.mono _ _ _ _ _ _)
   | (with_reducible exact racewayref6_Push.mono _ _ _ _ _ _ _ _)
   | (with_reducible exact racewayref6_Reach.mono _ _ _ _ _ _ _)
   | (with_reducible exact racewayref6_Room.mono _ _ _ _ _ _)
   | (with_reducible exact residual_Ends.mono _ _ _ _ _ _)
   | (with_reducible exact residual_From.mono _ _ _ _ _ _)
   | (with_reducible exact residual_Push.mono _ _ _ _ _ _ _ _)
   | (with_reducible exact residual_Reach.mono _ _ _ _ _ _ _)
   | (with_reducible exact residual_Room.mono _ _ _ _ _ _)
   | (with_reducible exact LeO.refl _)
   | (with_reducible exact LeO.none _)
   | (with_reducible refine LeO.ite ?_ ?_)
   | (with_reducible refine LeO.bind ?_ (fun _ => ?_))
   | exact ih0 _ _ _ _ _ _ _ _ _ _
   | exact ih1 _ _ _ _ _ _
   | exact ih2 _ _ _ _ _ _
   | exact racewaylaw6_same.mono _ _ _
   | exact racewaylaw6_sameBools.mono _ _ _
   | exact racewaylaw6_shown.mono _
   | exact racewayref5_Same.mono _ _ _
   | exact racewayref6_Ends.mono _ _ _ _ _ _
   | exact racewayref6_From.mono _ _ _ _ _ _
   | exact racewayref6_Push.mono _ _ _ _ _ _ _ _
   | exact racewayref6_Reach.mono _ _ _ _ _ _ _
   | exact racewayref6_Room.mono _ _ _ _ _ _
   | exact residual_Ends.mono _ _ _ _ _ _
   | exact residual_From.mono _ _ _ _ _ _
   | exact residual_Push.mono _ _ _ _ _ _ _ _
   | exact residual_Reach.mono _ _ _ _ _ _ _
   | exact residual_Room.mono _ _ _ _ _ _
   | exact LeO.none _
   | refine LeO.ite ?_ ?_
   | refine LeO.bind ?_ (fun _ => ?_)
  ·intro y0 y1 y2 y3 y4 y5
   unfold racewaylaw6_ResidualTells.j1
   repeat' first
   | (with_reducible exact ih0 _ _ _ _ _ _ _ _ _ _)
   | (with_reducible exact ih1 _ _ _ _ _ _)
   | (with_reducible exact ih2 _ _ _ _ _ _)
   | (with_reducible exact racewaylaw6_same.mono _ _ _)
   | (with_reducible exact racewaylaw6_sameBools.mono _ _ _)
   | (with_reducible exact racewaylaw6_shown.mono _)
   | (with_reducible exact racewayref5_Same.mono _ _ _)
   | (with_reducible exact racewayref6_Ends.mono _ _ _ _ _ _)
   | (with_reducible exact racewayref6_From.mono _ _ _ _ _ _)
   | (with_reducible exact racewayref6_Push.mono _ _ _ _ _ _ _ _)
   | (with_reducible exact racewayref6_Reach.mono _ _ _ _ _ _ _)
   | (with_reducible exact racewayref6_Room.mono _ _ _ _ _ _)
   | (with_reducible exact residual_Ends.mono _ _ _ _ _ _)
   | (with_reducible exact residual_From.mono _ _ _ _ _ _)
   | (with_reducible exact residual_Push.mono _ _ _ _ _ _ _ _)
   | (with_reducible exact residual_Reach.mono _ _ _ _ _ _ _)
   | (with_reducible exact residual_Room.mono _ _ _ _ _ _)
   | (with_reducible exact LeO.refl _)
   | (with_reducible exact LeO.none _)
   | (with_reducible refine LeO.ite ?_ ?_)
   | (with_reducible refine LeO.bind ?_ (fun _ => ?_))
   | exact ih0 _ _ _ _ _ _ _ _ _ _
   | exact ih1 _ _ _ _ _ _
   | exact ih2 _ _ _ _ _ _
   | exact racewaylaw6_same.mono _ _ _
   | exact racewaylaw6_sameBools.mono _ _ _
   | exact racewaylaw6_shown.mono _
   | exact racewayref5_Same.mono _ _ _
   | exact racewayref6_Ends.mono _ _ _ _ _ _
   | exact racewayref6_From.mono _ _ _ _ _ _
   | exact racewayref6_Push.mono _ _ _ _ _ _ _ _
   | exact racewayref6_Reach.mono _ _ _ _ _ _ _
   | exact racewayref6_Room.mono _ _ _ _ _ _
   | exact residual_Ends.mono _ _ _ _ _ _
   | exact residual_From.mono _ _ _ _ _ _
   | exact residual_Push.mono _ _ _ _ _ _ _ _
   | exact residual_Reach.mono _ _ _ _ _ _ _
   | exact residual_Room.mono _ _ _ _ _ _
   | exact LeO.none _
   | refine LeO.ite ?_ ?_
   | refine LeO.bind ?_ (fun _ => ?_)
  ·intro y0 y1 y2 y3 y4 y5
   unfold racewaylaw6_ResidualTells.l0
   repeat' first
   | (with_reducible exact ih0 _ _ _ _ _ _ _ _ _ _)
   | (with_reducible exact ih1 _ _ _ _ _ _)
   | (with_reducible exact ih2 _ _ _ _ _ _)
   | (with_reducible exact racewaylaw6_same.mono _ _ _)
   | (with_reducible exact racewaylaw6_sameBools.mono _ _ _)
   | (with_reducible exact racewaylaw6_shown.mono _)
   | (with_reducible exact racewayref5_Same.mono _ _ _)
   | (with_reducible exact racewayref6_Ends.mono _ _ _ _ _ _)
   | (with_reducible exact racewayref6_From.mono _ _ _ _ _ _)
   | (with_reducible exact racewayref6_Push.mono _ _ _ _ _ _ _ _)
   | (with_reducible exact racewayref6_Reach.mono _ _ _ _ _ _ _)
   | (with_reducible exact racewayref6_Room.mono _ _ _ _ _ _)
   | (with_reducible exact residual_Ends.mono _ _ _ _ _ _)
   | (with_reducible exact residual_From.mono _ _ _ _ _ _)
   | (with_reducible exact residual_Push.mono _ _ _ _ _ _ _ _)
   | (with_reducible exact residual_Reach.mono _ _ _ _ _ _ _)
   | (with_reducible exact residual_Room.mono _ _ _ _ _ _)
   | (with_reducible exact LeO.refl _)
   | (with_reducible exact LeO.none _)
   | (with_reducible refine LeO.ite ?_ ?_)
   | (with_reducible refine LeO.bind ?_ (fun _ => ?_))
   | exact ih0 _ _ _ _ _ _ _ _ _ _
   | exact ih1 _ _ _ _ _ _
   | exact ih2 _ _ _ _ _ _
   | exact racewaylaw6_same.mono _ _ _
   | exact racewaylaw6_sameBools.mono _ _ _
   | exact racewaylaw6_shown.mono _
   | exact racewayref5_Same.mono _ _ _
   | exact racewayref6_Ends.mono _ _ _ _ _ _
   | exact racewayref6_From.mono _ _ _ _ _ _
   | exact racewayref6_Push.mono _ _ _ _ _ _ _ _
   | exact racewayref6_Reach.mono _ _ _ _ _ _ _
   | exact racewayref6_Room.mono _ _ _ _ _ _
   | exact residual_Ends.mono _ _ _ _ _ _
   | exact residual_From.mono _ _ _ _ _ _
   | exact residual_Push.mono _ _ _ _ _ _ _ _
   | exact residual_Reach.mono _ _ _ _ _ _ _
   | exact residual_Room.mono _ _ _ _ _ _
   | exact LeO.none _
   | refine LeO.ite ?_ ?_
   | refine LeO.bind ?_ (fun _ => ?_)
theorem racewaylaw6_ResidualTells.mono : ∀ a0 a1 a2 a3 a4 a5 a6 a7 k, LeO (racewaylaw6_ResidualTells.f k a0 a1 a2 a3 a4 a5 a6 a7) (racewaylaw6_ResidualTells.f (k + 1) a0 a1 a2 a3 a4 a5 a6 a7) := by
 intro a0 a1 a2 a3 a4 a5 a6 a7 k
 obtain ⟨ih0, ih1, ih2⟩ := racewaylaw6_ResidualTells.mono_l k
 unfold racewaylaw6_ResidualTells.f
 repeat' first
   | (with_reducible exact ih0 _ _ _ _ _ _ _ _ _ _)
   | (with_reducible exact ih1 _ _ _ _ _ _)
   | (with_reducible exact ih2 _ _ _ _ _ _)
   | (with_reducible exact racewaylaw6_same.mono _ _ _)
   | (with_reducible exact racewaylaw6_sameBools.mono _ _ _)
   | (with_reducible exact racewaylaw6_shown.mono _)
   | (with_reducible exact racewayref5_Same.mono _ _ _)
   | (with_reducible exact racewayref6_Ends.mono _ _ _ _ _ _)
   | (with_reducible exact racewayref6_From.mono _ _ _ _ _ _)
   | (with_reducible exact racewayref6_Push.mono _ _ _ _ _ _ _ _)
   | (with_reducible exact racewayref6_Reach.mono _ _ _ _ _ _ _)
   | (with_reducible exact racewayref6_Room.mono _ _ _ _ _ _)
   | (with_reducible exact residual_Ends.mono _ _ _ _ _ _)
   | (with_reducible exact residual_From.mono _ _ _ _ _ _)
   | (with_reducible exact residual_Push.mono _ _ _ _ _ _ _ _)
   | (with_reducible exact residual_Reach.mono _ _ _ _ _ _ _)
   | (with_reducible exact residual_Room.mono _ _ _ _ _ _)
   | (with_reducible exact LeO.refl _)
   | (with_reducible exact LeO.none _)
   | (with_reducible refine LeO.ite ?_ ?_)
   | (with_reducible refine LeO.bind ?_ (fun _ => ?_))
   | exact ih0 _ _ _ _ _ _ _ _ _ _
   | exact ih1 _ _ _ _ _ _
   | exact ih2 _ _ _ _ _ _
   | exact racewaylaw6_same.mono _ _ _
   | exact racewaylaw6_sameBools.mono _ _ _
   | exact racewaylaw6_shown.mono _
   | exact racewayref5_Same.mono _ _ _
   | exact racewayref6_Ends.mono _ _ _ _ _ _
   | exact racewayref6_From.mono _ _ _ _ _ _
   | exact racewayref6_Push.mono _ _ _ _ _ _ _ _
   | exact racewayref6_Reach.mono _ _ _ _ _ _ _
   | exact racewayref6_Room.mono _ _ _ _ _ _
   | exact residual_Ends.mono _ _ _ _ _ _
   | exact residual_From.mono _ _ _ _ _ _
   | exact residual_Push.mono _ _ _ _ _ _ _ _
   | exact residual_Reach.mono _ _ _ _ _ _ _
   | exact residual_Room.mono _ _ _ _ _ _
   | exact LeO.none _
   | refine LeO.ite ?_ ?_
   | refine LeO.bind ?_ (fun _ => ?_)
def racewaylaw6_ResidualTells.T15 : Bool × List (List Nat × List Nat) := (true, [([], []), ([], []), ([], []), ([1, 2], [1, 2]), ([3], [3]), ([0, 4], [0, 4]), ([5], [5]), ([6], [6]), ([6], [6]), ([7, 5, 0, 1, 2, 3, 4, 5, 6, 7], [7]), ([8, 9, 0, 1, 2, 3, 4, 5, 6, 7, 8, 9], [8])])
def racewaylaw6_ResidualTells.B15 : List Nat := [0, 0, 0, 6, 14, 31, 63, 127, 127, 255, 1023]
theorem racewaylaw6_ResidualTells.tab15 : rtab .any (opsOf Try.f12 15) = racewaylaw6_ResidualTells.T15 := by kernel_rfl
theorem racewaylaw6_ResidualTells.bits15 : waitsOk racewaylaw6_ResidualTells.T15.2 racewaylaw6_ResidualTells.B15 = true := by kernel_rfl
def racewaylaw6_ResidualTells.T16 : Bool × List (List Nat × List Nat) := (true, [([], []), ([], []), ([], []), ([1, 2], [1, 2]), ([3], [3]), ([0, 4], [0, 4]), ([5], [5]), ([6], [6]), ([6], [6]), ([7, 5, 0, 1, 2, 3, 4, 5, 6, 7], [7]), ([8, 9, 0, 1, 2, 3, 4, 5, 6, 7, 8, 9], [8])])
def racewaylaw6_ResidualTells.B16 : List Nat := [0, 0, 0, 6, 14, 31, 63, 127, 127, 255, 1023]
theorem racewaylaw6_ResidualTells.tab16 : rtab .any (opsOf Try.f12 16) = racewaylaw6_ResidualTells.T16 := by kernel_rfl
theorem racewaylaw6_ResidualTells.bits16 : waitsOk racewaylaw6_ResidualTells.T16.2 racewaylaw6_ResidualTells.B16 = true := by kernel_rfl
def racewaylaw6_ResidualTells.T17 : Bool × List (List Nat × List Nat) := (true, [([], []), ([], []), ([0, 1], [0, 1]), ([2], [2]), ([3], [3]), ([3], [3]), ([4, 5, 3], [3, 4, 5]), ([3, 6], [3, 6]), ([7, 3], [7]), ([8], [8]), ([8], [8]), ([9, 10, 8, 8], [8, 9, 10]), ([8], [8]), ([8], [8]), ([12, 13, 11, 8], [8, 12, 13]), ([11, 14, 14, 8], [8, 11, 14]), ([15, 8], [8, 15]), ([8, 16], [8, 16])])
def racewaylaw6_ResidualTells.B17 : List Nat := [0, 0, 3, 7, 15, 15, 63, 127, 255, 511, 511, 2047, 511, 511, 16383, 32767, 65535, 131071]
theorem racewaylaw6_ResidualTells.tab17 : rtab .any (opsOf Try.f12 17) = racewaylaw6_ResidualTells.T17 := by kernel_rfl
theorem racewaylaw6_ResidualTells.bits17 : waitsOk racewaylaw6_ResidualTells.T17.2 racewaylaw6_ResidualTells.B17 = true := by kernel_rfl
set_option maxHeartbeats 8000000 in
set_option maxRecDepth 100000 in
theorem racewaylaw6_ResidualTells.calls (k : Nat) (a0_0 : Int) (a0_1 : Int) (a0_2 : Int) (A0_3 : Option Addr) (c0_3 : Nat) (l0_3 : List (S49)) (A1 : Option Addr) (c1 : Nat) (l1 : List Int) (A2 : Option Addr) (c2 : Nat) (l2 : List Int) (a3 : Int) (a4 : Int) (r : Bool) (w : World) (hr0_3 : Kd.C k49 w A0_3 l0_3.length l0_3) (hc0_3 : l0_3.length ≤ c0_3) (hr1 : Kd.C (Kd.int .i64) w A1 l1.length l1) (hc1 : l1.length ≤ c1) (hr2 : Kd.C (Kd.int .i64) w A2 l2.length l2) (hc2 : l2.length ≤ c2) (h : racewaylaw6_ResidualTells.f k a0_0 a0_1 a0_2 l0_3 l1 l2 a3 a4 = some r) (hrT_ : Aside0 (r = true)) :
  Calls Try.prog 12 #[.agg #[.int .i64 a0_0, .int .i64 a0_1, .int .i64 a0_2, .slice A0_3 l0_3.length c0_3], .slice A1 l1.length c1, .slice A2 l2.length c2, .int .i64 a3, .int .i64 a4] w fun e w' => e = .returned (.bool r) ∧ Below w.heap.size w w' := by
 have hu27 := Try.underlying27
 have HR0_3 := Aside0.mk hr0_3
 have HC0_3 := Aside0.mk hc0_3
 clear hr0_3 hc0_3
 have HR1 := Aside0.mk hr1
 have HC1 := Aside0.mk hc1
 clear hr1 hc1
 have HR2 := Aside0.mk hr2
 have HC2 := Aside0.mk hc2
 clear hr2 hc2
 have HB := Aside0.mk (Below.refl w.heap.size w)
 have H : ((racewaylaw6_shown.f k).bind fun t251 => (if t251 = true then (if (l0_3.length : Int) > 200 then (racewaylaw6_ResidualTells.j0 k l1 l2 a3 a4 t251 true a0_0 a0_1 a0_2 l0_3) else (if a0_0 > 60 then (racewaylaw6_ResidualTells.j0 k l1 l2 a3 a4 t251 true a0_0 a0_1 a0_2 l0_3) else (racewaylaw6_ResidualTells.j0 k l1 l2 a3 a4 t251 (decide ((l2.length : Int) > 100)) a0_0 a0_1 a0_2 l0_3))) else (racewaylaw6_ResidualTells.j0 k l1 l2 a3 a4 t251 true a0_0 a0_1 a0_2 l0_3))) = some r := h
 clear h
 replace H := Option.bind_eq_some_iff.mp H
 obtain ⟨t251, A60, H⟩ := H
 replace H : (if t251 = true then (if (l0_3.length : Int) > 200 then (racewaylaw6_ResidualTells.j0 k l1 l2 a3 a4 t251 true a0_0 a0_1 a0_2 l0_3) else (if a0_0 > 60 then (racewaylaw6_ResidualTells.j0 k l1 l2 a3 a4 t251 true a0_0 a0_1 a0_2 l0_3) else (racewaylaw6_ResidualTells.j0 k l1 l2 a3 a4 t251 (decide ((l2.length : Int) > 100)) a0_0 a0_1 a0_2 l0_3))) else (racewaylaw6_ResidualTells.j0 k l1 l2 a3 a4 t251 true a0_0 a0_1 a0_2 l0_3)) = some r := H
 have A6 := Aside0.mk A60
 clear A60
 have HC7 := Aside0.mk H
 clear H
 go_enter Try.func12, Try.ntmps12
 go_upto_region 2 with (first | ((with_reducible refine gate_dst (N := 5) rfl ?_); (try (refine gate_guard (by rfl) ?_; dsimp only)); refine box_event ?hg (N := 5) ?hd (cs := #[.int .i64 a0_0, .int .i64 a0_1, .int .i64 a0_2, .slice A0_3 l0_3.length c0_3]) (t := 27) ?hr ?_; (case hd => rfl); (case hg => rfl); (case hr => first | (go_simp; done) | (go_simp; rfl)); intro gb250 hg w8 hbox hb; have n0_ := Aside0.mk (below_step (by repeat (first | (with_reducible first | exact HB.out | apply below_alloc | apply pw_below_drewN | apply below_drew1) | exact HB.out)) hb); have n1_ := Aside0.mk (hbox); have n2_ := Aside0.mk ((by rw [hg]; exact (below_size (by repeat (first | (with_reducible first | exact HB.out | apply below_alloc | apply pw_below_drewN | apply below_drew1) | exact HB.out))) : w.heap.size ≤ gb250)); have n3_ := Aside0.mk ((by rw [hg]; exact (below_size (by repeat (first | (with_reducible first | exact HB.out | apply below_alloc | apply pw_below_drewN | apply below_drew1) | exact HB.out))) : w.heap.size ≤ gb250)); clear HB; have HB := n0_; have BK250 := n1_; have GW250 := n2_; have GE250 := n3_; clear n0_ n1_ n2_ n3_; clear hb hbox hg) | ((with_reducible refine gate_callee (f := 14) rfl ?_); refine goesL_ (some 29) rfl rfl Try.func14 (by kernel_rfl) rfl #[] rfl (by (try simp only [List.map_toArray, List.map_cons, List.map_nil]); first | done | rfl | (simp only [List.length_drop, List.length_take]; rfl)) ?_; (with_reducible refine (racewaylaw6_shown.calls k  t251 _ A6.out).mono ?_); rintro e w9 ⟨rfl, hb⟩; refine ⟨_, rfl, ?_⟩; have n0_ := Aside0.mk (blk_below (g := gb250) (o := .cells #[.int .i64 a0_0, .int .i64 a0_1, .int .i64 a0_2, .slice A0_3 l0_3.length c0_3] 27 (0, 0)) (by (with_reducible repeat first | refine blk_drewN ?_ _ | refine blk_drew ?_ | refine blk_alloc ?_ _); exact BK250.out) hb); have n1_ := Aside0.mk (below_step (by repeat (first | (with_reducible first | exact HB.out | apply below_alloc | apply pw_below_drewN | apply below_drew1 | refine below_set ?_ GE250.out) | exact HB.out)) hb); clear BK250; clear HB; have BK250 := n0_; have HB := n1_; clear n0_ n1_; (try clear hb)))
 (try simp only [Act.put, List.setIfInBounds_toArray, List.set_cons_zero, List.set_cons_succ])
 go_cut [47] (fun v47 wc => ∃ (kq : Nat) (x47_6 : Bool), v47 = .bool x47_6 ∧ Aside0 (racewaylaw6_ResidualTells.j0 kq l1 l2 a3 a4 t251 x47_6 a0_0 a0_1 a0_2 l0_3 = some r) ∧ Aside0 (kq ≤ k) ∧ Aside0 (wc.heap[gb250]? = some (.cells #[.int .i64 a0_0, .int .i64 a0_1, .int .i64 a0_2, (.slice A0_3 l0_3.length c0_3)] 27 (0, 0))) ∧ Aside0 (Below w.heap.size w wc))
 case first =>
  have H := HC7.out
  clear HC7
  by_cases c10 : t251 = true
  ·subst c10
   (have H1 : (if (l0_3.length : Int) > 200 then (racewaylaw6_ResidualTells.j0 k l1 l2 a3 a4 true true a0_0 a0_1 a0_2 l0_3) else (if a0_0 > 60 then (racewaylaw6_ResidualTells.j0 k l1 l2 a3 a4 true true a0_0 a0_1 a0_2 l0_3) else (racewaylaw6_ResidualTells.j0 k l1 l2 a3 a4 true (decide ((l2.length : Int) > 100)) a0_0 a0_1 a0_2 l0_3))) = some r := by rw [if_pos rfl] at H; exact H);(clear H);(have H := H1);(clear H1)
   by_cases c11 : (l0_3.length : Int) > 200
   ·(rw [if_pos c11] at H);(have c11b0 : decide (200 < (l0_3.length : Int)) = true := decide_eq_true c11);(have c11b1 : decide (200 < l0_3.length) = true := decide_eq_true (by omega));(clear c11);((first | rw [c11b0] | (simp only [i64_w, i32_w]; rw [c11b0]) | skip))
    as_aux_lemma =>
     (have H' := Aside0.mk H);(clear H);(have hcz12_0 : w9.cell? ⟨gb250, 0, none⟩ = some (.int .i64 a0_0) := (blk_cell BK250.out 0).trans rfl);(have hcz12_1 : w9.cell? ⟨gb250, 1, none⟩ = some (.int .i64 a0_1) := (blk_cell BK250.out 1).trans rfl);(have hcz12_2 : w9.cell? ⟨gb250, 2, none⟩ = some (.int .i64 a0_2) := (blk_cell BK250.out 2).trans rfl);(have hcz12_3 : w9.cell? ⟨gb250, 3, none⟩ = some (.slice A0_3 l0_3.length c0_3) := (blk_cell BK250.out 3).trans rfl);(have hfz12_0 := blk_frozen BK250.out 0);(have hfz12_1 := blk_frozen BK250.out 1);(have hfz12_2 := blk_frozen BK250.out 2);(have hfz12_3 := blk_frozen BK250.out 3)
     go_wp2
     go_meet
     case rel => exact ⟨_, (true), (by first | rfl | (simp; done) | (simp [*]; done)), H', ⟨by first | omega | exact Nat.le_refl _⟩, ⟨by (with_reducible repeat first | refine blk_drewN ?_ _ | refine blk_drew ?_ | refine blk_alloc ?_ _); exact BK250.out⟩, ⟨by repeat (first | (with_reducible first | exact HB.out | apply below_alloc | apply pw_below_drewN | apply below_drew1 | refine below_set ?_ GE250.out) | exact HB.out)⟩⟩
   ·(rw [if_neg c11] at H);(have c11b0 : decide (200 < (l0_3.length : Int)) = false := decide_eq_false c11);(have c11b1 : decide (200 < l0_3.length) = false := decide_eq_false (by omega));(clear c11);((first | rw [c11b0] | (simp only [i64_w, i32_w]; rw [c11b0]) | skip))
    by_cases c13 : a0_0 > 60
    ·(rw [if_pos c13] at H);(have c13b0 : decide (60 < a0_0) = true := decide_eq_true c13);(clear c13)
     as_aux_lemma =>
      (have H' := Aside0.mk H);(clear H);(have hcz14_0 : w9.cell? ⟨gb250, 0, none⟩ = some (.int .i64 a0_0) := (blk_cell BK250.out 0).trans rfl);(have hcz14_1 : w9.cell? ⟨gb250, 1, none⟩ = some (.int .i64 a0_1) := (blk_cell BK250.out 1).trans rfl);(have hcz14_2 : w9.cell? ⟨gb250, 2, none⟩ = some (.int .i64 a0_2) := (blk_cell BK250.out 2).trans rfl);(have hcz14_3 : w9.cell? ⟨gb250, 3, none⟩ = some (.slice A0_3 l0_3.length c0_3) := (blk_cell BK250.out 3).trans rfl);(have hfz14_0 := blk_frozen BK250.out 0);(have hfz14_1 := blk_frozen BK250.out 1);(have hfz14_2 := blk_frozen BK250.out 2);(have hfz14_3 := blk_frozen BK250.out 3)
      go_wp2
      go_meet
      case rel => exact ⟨_, (true), (by first | rfl | (simp; done) | (simp [*]; done)), H', ⟨by first | omega | exact Nat.le_refl _⟩, ⟨by (with_reducible repeat first | refine blk_drewN ?_ _ | refine blk_drew ?_ | refine blk_alloc ?_ _); exact BK250.out⟩, ⟨by repeat (first | (with_reducible first | exact HB.out | apply below_alloc | apply pw_below_drewN | apply below_drew1 | refine below_set ?_ GE250.out) | exact HB.out)⟩⟩
    ·(rw [if_neg c13] at H);(have c13b0 : decide (60 < a0_0) = false := decide_eq_false c13);(clear c13)
     as_aux_lemma =>
      (have H' := Aside0.mk H);(clear H);(have hcz15_0 : w9.cell? ⟨gb250, 0, none⟩ = some (.int .i64 a0_0) := (blk_cell BK250.out 0).trans rfl);(have hcz15_1 : w9.cell? ⟨gb250, 1, none⟩ = some (.int .i64 a0_1) := (blk_cell BK250.out 1).trans rfl);(have hcz15_2 : w9.cell? ⟨gb250, 2, none⟩ = some (.int .i64 a0_2) := (blk_cell BK250.out 2).trans rfl);(have hcz15_3 : w9.cell? ⟨gb250, 3, none⟩ = some (.slice A0_3 l0_3.length c0_3) := (blk_cell BK250.out 3).trans rfl);(have hfz15_0 := blk_frozen BK250.out 0);(have hfz15_1 := blk_frozen BK250.out 1);(have hfz15_2 := blk_frozen BK250.out 2);(have hfz15_3 := blk_frozen BK250.out 3)
      go_wp2
      go_meet
      case rel => exact ⟨_, (decide ((l2.length : Int) > 100)), (by first | rfl | (simp; done) | (simp [*]; done)), H', ⟨by first | omega | exact Nat.le_refl _⟩, ⟨by (with_reducible repeat first | refine blk_drewN ?_ _ | refine blk_drew ?_ | refine blk_alloc ?_ _); exact BK250.out⟩, ⟨by repeat (first | (with_reducible first | exact HB.out | apply below_alloc | apply pw_below_drewN | apply below_drew1 | refine below_set ?_ GE250.out) | exact HB.out)⟩⟩
  ·replace c10 := Bool.eq_false_iff.mpr c10
   (subst c10);(have H1 : (racewaylaw6_ResidualTells.j0 k l1 l2 a3 a4 false true a0_0 a0_1 a0_2 l0_3) = some r := by rw [if_neg (show ¬ (false = true) by decide)] at H; exact H);(clear H);(have H := H1);(clear H1)
   as_aux_lemma =>
    (have H' := Aside0.mk H);(clear H)
    go_wp2
    go_meet
    case rel => exact ⟨_, (true), (by first | rfl | (simp; done) | (simp [*]; done)), H', ⟨by first | omega | exact Nat.le_refl _⟩, ⟨by (with_reducible repeat first | refine blk_drewN ?_ _ | refine blk_drew ?_ | refine blk_alloc ?_ _); exact BK250.out⟩, ⟨by repeat (first | (with_reducible first | exact HB.out | apply below_alloc | apply pw_below_drewN | apply below_drew1 | refine below_set ?_ GE250.out) | exact HB.out)⟩⟩
 case rest =>
  clear HC7
  try clear c1
  try clear c2
  try clear p2
  try clear c10
  try clear c11
  try clear c11b0
  try clear c11b1
  try clear c12
  try clear c13
  try clear c13b0
  try clear c14
  try clear hcz12_0
  try clear hcz12_1
  try clear hcz12_2
  try clear hcz12_3
  try clear hcz14_0
  try clear hcz14_1
  try clear hcz14_2
  try clear hcz14_3
  try clear hcz15_0
  try clear hcz15_1
  try clear hcz15_2
  try clear hcz15_3
  try clear hfz12_0
  try clear hfz12_1
  try clear hfz12_2
  try clear hfz12_3
  try clear hfz14_0
  try clear hfz14_1
  try clear hfz14_2
  try clear hfz14_3
  try clear hfz15_0
  try clear hfz15_1
  try clear hfz15_2
  try clear hfz15_3
  obtain ⟨kq, x47_6, rfl, HA, HJ6, BK250, HB⟩ := hcut
  cases kq with
  | zero => exact absurd HA.out (by simp [racewaylaw6_ResidualTells.j0])
  | succ kj6 =>
   (have H := HA.out);(clear HA);(simp only [racewaylaw6_ResidualTells.j0] at H)
   by_cases c16 : x47_6 = true
   ·(subst c16);(have H1 : (some t251) = some r := by rw [if_pos rfl] at H; exact H);(clear H);(have H := H1);(clear H1)
    as_aux_lemma =>
     obtain rfl := Option.some.inj H
     go_wp2
     go_ret
     exact ⟨by first | rfl | (simp [errW_none, errW_some] <;> rfl) | (simp [*, errW_none, errW_some] <;> rfl), by repeat (first | (with_reducible first | exact HB.out | apply below_alloc | apply pw_below_drewN | apply below_drew1 | refine below_set ?_ GE250.out) | exact HB.out)⟩
   ·(replace c16 := Bool.eq_false_iff.mpr c16);(subst c16);(have H1 : ((residual_Room.f kj6 a0_0 a0_1 a0_2 l0_3 l1).bind fun bt252 => ((racewayref6_Room.f kj6 a0_0 a0_1 a0_2 l0_3 l1).bind fun bt256 => ((residual_Push.f kj6 a0_0 a0_1 a0_2 l0_3 l1 l2 a3).bind fun bt260 => ((racewayref6_Push.f kj6 a0_0 a0_1 a0_2 l0_3 l1 l2 a3).bind fun bt264 => ((residual_Reach.f kj6 a0_0 a0_1 a0_2 l0_3 l1 a4).bind fun bt268 => ((racewayref6_Reach.f kj6 a0_0 a0_1 a0_2 l0_3 l1 a4).bind fun bt272 => ((racewayref5_Same.f kj6 bt252.1 bt256.1).bind fun t276 => (if t276 = true then (if bt252.2 = bt256.2 then ((racewayref5_Same.f kj6 bt260.1 bt264.1).bind fun t277 => (if t277 = true then (if bt260.2 = bt264.2 then ((racewaylaw6_sameBools.f kj6 bt268.1 bt272.1).bind fun t278 => (if t278 = true then (racewaylaw6_ResidualTells.j1 kj6 l2 (bt268.2 != bt272.2) a0_0 a0_1 a0_2 l0_3) else (racewaylaw6_ResidualTells.j1 kj6 l2 true a0_0 a0_1 a0_2 l0_3))) else (racewaylaw6_ResidualTells.j1 kj6 l2 true a0_0 a0_1 a0_2 l0_3)) else (racewaylaw6_ResidualTells.j1 kj6 l2 true a0_0 a0_1 a0_2 l0_3))) else (racewaylaw6_ResidualTells.j1 kj6 l2 true a0_0 a0_1 a0_2 l0_3)) else (racewaylaw6_ResidualTells.j1 kj6 l2 true a0_0 a0_1 a0_2 l0_3))))))))) = some r := by rw [if_neg (show ¬ (false = true) by decide)] at H; exact H);(clear H);(have H := H1);(clear H1);(replace H := Option.bind_eq_some_iff.mp H);(obtain ⟨⟨t252, t255⟩, A170, H⟩ := H);(replace H : ((racewayref6_Room.f kj6 a0_0 a0_1 a0_2 l0_3 l1).bind fun bt256 => ((residual_Push.f kj6 a0_0 a0_1 a0_2 l0_3 l1 l2 a3).bind fun bt260 => ((racewayref6_Push.f kj6 a0_0 a0_1 a0_2 l0_3 l1 l2 a3).bind fun bt264 => ((residual_Reach.f kj6 a0_0 a0_1 a0_2 l0_3 l1 a4).bind fun bt268 => ((racewayref6_Reach.f kj6 a0_0 a0_1 a0_2 l0_3 l1 a4).bind fun bt272 => ((racewayref5_Same.f kj6 t252 bt256.1).bind fun t276 => (if t276 = true then (if t255 = bt256.2 then ((racewayref5_Same.f kj6 bt260.1 bt264.1).bind fun t277 => (if t277 = true then (if bt260.2 = bt264.2 then ((racewaylaw6_sameBools.f kj6 bt268.1 bt272.1).bind fun t278 => (if t278 = true then (racewaylaw6_ResidualTells.j1 kj6 l2 (bt268.2 != bt272.2) a0_0 a0_1 a0_2 l0_3) else (racewaylaw6_ResidualTells.j1 kj6 l2 true a0_0 a0_1 a0_2 l0_3))) else (racewaylaw6_ResidualTells.j1 kj6 l2 true a0_0 a0_1 a0_2 l0_3)) else (racewaylaw6_ResidualTells.j1 kj6 l2 true a0_0 a0_1 a0_2 l0_3))) else (racewaylaw6_ResidualTells.j1 kj6 l2 true a0_0 a0_1 a0_2 l0_3)) else (racewaylaw6_ResidualTells.j1 kj6 l2 true a0_0 a0_1 a0_2 l0_3)))))))) = some r := H);(have A17 := Aside0.mk A170);(clear A170);(replace H := Option.bind_eq_some_iff.mp H);(obtain ⟨⟨t256, t259⟩, A180, H⟩ := H);(replace H : ((residual_Push.f kj6 a0_0 a0_1 a0_2 l0_3 l1 l2 a3).bind fun bt260 => ((racewayref6_Push.f kj6 a0_0 a0_1 a0_2 l0_3 l1 l2 a3).bind fun bt264 => ((residual_Reach.f kj6 a0_0 a0_1 a0_2 l0_3 l1 a4).bind fun bt268 => ((racewayref6_Reach.f kj6 a0_0 a0_1 a0_2 l0_3 l1 a4).bind fun bt272 => ((racewayref5_Same.f kj6 t252 t256).bind fun t276 => (if t276 = true then (if t255 = t259 then ((racewayref5_Same.f kj6 bt260.1 bt264.1).bind fun t277 => (if t277 = true then (if bt260.2 = bt264.2 then ((racewaylaw6_sameBools.f kj6 bt268.1 bt272.1).bind fun t278 => (if t278 = true then (racewaylaw6_ResidualTells.j1 kj6 l2 (bt268.2 != bt272.2) a0_0 a0_1 a0_2 l0_3) else (racewaylaw6_ResidualTells.j1 kj6 l2 true a0_0 a0_1 a0_2 l0_3))) else (racewaylaw6_ResidualTells.j1 kj6 l2 true a0_0 a0_1 a0_2 l0_3)) else (racewaylaw6_ResidualTells.j1 kj6 l2 true a0_0 a0_1 a0_2 l0_3))) else (racewaylaw6_ResidualTells.j1 kj6 l2 true a0_0 a0_1 a0_2 l0_3)) else (racewaylaw6_ResidualTells.j1 kj6 l2 true a0_0 a0_1 a0_2 l0_3))))))) = some r := H);(have A18 := Aside0.mk A180);(clear A180);(replace H := Option.bind_eq_some_iff.mp H);(obtain ⟨⟨t260, t263⟩, A190, H⟩ := H);(replace H : ((racewayref6_Push.f kj6 a0_0 a0_1 a0_2 l0_3 l1 l2 a3).bind fun bt264 => ((residual_Reach.f kj6 a0_0 a0_1 a0_2 l0_3 l1 a4).bind fun bt268 => ((racewayref6_Reach.f kj6 a0_0 a0_1 a0_2 l0_3 l1 a4).bind fun bt272 => ((racewayref5_Same.f kj6 t252 t256).bind fun t276 => (if t276 = true then (if t255 = t259 then ((racewayref5_Same.f kj6 t260 bt264.1).bind fun t277 => (if t277 = true then (if t263 = bt264.2 then ((racewaylaw6_sameBools.f kj6 bt268.1 bt272.1).bind fun t278 => (if t278 = true then (racewaylaw6_ResidualTells.j1 kj6 l2 (bt268.2 != bt272.2) a0_0 a0_1 a0_2 l0_3) else (racewaylaw6_ResidualTells.j1 kj6 l2 true a0_0 a0_1 a0_2 l0_3))) else (racewaylaw6_ResidualTells.j1 kj6 l2 true a0_0 a0_1 a0_2 l0_3)) else (racewaylaw6_ResidualTells.j1 kj6 l2 true a0_0 a0_1 a0_2 l0_3))) else (racewaylaw6_ResidualTells.j1 kj6 l2 true a0_0 a0_1 a0_2 l0_3)) else (racewaylaw6_ResidualTells.j1 kj6 l2 true a0_0 a0_1 a0_2 l0_3)))))) = some r := H);(have A19 := Aside0.mk A190);(clear A190);(replace H := Option.bind_eq_some_iff.mp H);(obtain ⟨⟨t264, t267⟩, A200, H⟩ := H);(replace H : ((residual_Reach.f kj6 a0_0 a0_1 a0_2 l0_3 l1 a4).bind fun bt268 => ((racewayref6_Reach.f kj6 a0_0 a0_1 a0_2 l0_3 l1 a4).bind fun bt272 => ((racewayref5_Same.f kj6 t252 t256).bind fun t276 => (if t276 = true then (if t255 = t259 then ((racewayref5_Same.f kj6 t260 t264).bind fun t277 => (if t277 = true then (if t263 = t267 then ((racewaylaw6_sameBools.f kj6 bt268.1 bt272.1).bind fun t278 => (if t278 = true then (racewaylaw6_ResidualTells.j1 kj6 l2 (bt268.2 != bt272.2) a0_0 a0_1 a0_2 l0_3) else (racewaylaw6_ResidualTells.j1 kj6 l2 true a0_0 a0_1 a0_2 l0_3))) else (racewaylaw6_ResidualTells.j1 kj6 l2 true a0_0 a0_1 a0_2 l0_3)) else (racewaylaw6_ResidualTells.j1 kj6 l2 true a0_0 a0_1 a0_2 l0_3))) else (racewaylaw6_ResidualTells.j1 kj6 l2 true a0_0 a0_1 a0_2 l0_3)) else (racewaylaw6_ResidualTells.j1 kj6 l2 true a0_0 a0_1 a0_2 l0_3))))) = some r := H);(have A20 := Aside0.mk A200);(clear A200);(replace H := Option.bind_eq_some_iff.mp H);(obtain ⟨⟨t268, t271⟩, A210, H⟩ := H);(replace H : ((racewayref6_Reach.f kj6 a0_0 a0_1 a0_2 l0_3 l1 a4).bind fun bt272 => ((racewayref5_Same.f kj6 t252 t256).bind fun t276 => (if t276 = true then (if t255 = t259 then ((racewayref5_Same.f kj6 t260 t264).bind fun t277 => (if t277 = true then (if t263 = t267 then ((racewaylaw6_sameBools.f kj6 t268 bt272.1).bind fun t278 => (if t278 = true then (racewaylaw6_ResidualTells.j1 kj6 l2 (t271 != bt272.2) a0_0 a0_1 a0_2 l0_3) else (racewaylaw6_ResidualTells.j1 kj6 l2 true a0_0 a0_1 a0_2 l0_3))) else (racewaylaw6_ResidualTells.j1 kj6 l2 true a0_0 a0_1 a0_2 l0_3)) else (racewaylaw6_ResidualTells.j1 kj6 l2 true a0_0 a0_1 a0_2 l0_3))) else (racewaylaw6_ResidualTells.j1 kj6 l2 true a0_0 a0_1 a0_2 l0_3)) else (racewaylaw6_ResidualTells.j1 kj6 l2 true a0_0 a0_1 a0_2 l0_3)))) = some r := H);(have A21 := Aside0.mk A210);(clear A210);(replace H := Option.bind_eq_some_iff.mp H);(obtain ⟨⟨t272, t275⟩, A220, H⟩ := H);(replace H : ((racewayref5_Same.f kj6 t252 t256).bind fun t276 => (if t276 = true then (if t255 = t259 then ((racewayref5_Same.f kj6 t260 t264).bind fun t277 => (if t277 = true then (if t263 = t267 then ((racewaylaw6_sameBools.f kj6 t268 t272).bind fun t278 => (if t278 = true then (racewaylaw6_ResidualTells.j1 kj6 l2 (t271 != t275) a0_0 a0_1 a0_2 l0_3) else (racewaylaw6_ResidualTells.j1 kj6 l2 true a0_0 a0_1 a0_2 l0_3))) else (racewaylaw6_ResidualTells.j1 kj6 l2 true a0_0 a0_1 a0_2 l0_3)) else (racewaylaw6_ResidualTells.j1 kj6 l2 true a0_0 a0_1 a0_2 l0_3))) else (racewaylaw6_ResidualTells.j1 kj6 l2 true a0_0 a0_1 a0_2 l0_3)) else (racewaylaw6_ResidualTells.j1 kj6 l2 true a0_0 a0_1 a0_2 l0_3))) = some r := H);(have A22 := Aside0.mk A220);(clear A220);(have HC23 := Aside0.mk H);(clear H);(have hcz24_0 : wc.cell? ⟨gb250, 0, none⟩ = some (.int .i64 a0_0) := (blk_cell BK250.out 0).trans rfl);(have hcz24_1 : wc.cell? ⟨gb250, 1, none⟩ = some (.int .i64 a0_1) := (blk_cell BK250.out 1).trans rfl);(have hcz24_2 : wc.cell? ⟨gb250, 2, none⟩ = some (.int .i64 a0_2) := (blk_cell BK250.out 2).trans rfl);(have hcz24_3 : wc.cell? ⟨gb250, 3, none⟩ = some (.slice A0_3 l0_3.length c0_3) := (blk_cell BK250.out 3).trans rfl);(have hfz24_0 := blk_frozen BK250.out 0);(have hfz24_1 := blk_frozen BK250.out 1);(have hfz24_2 := blk_frozen BK250.out 2);(have hfz24_3 := blk_frozen BK250.out 3)
    go_upto_region 10 with (first | ((with_reducible refine gate_callee (f := 18) rfl ?_); refine goesL_ (some 52) rfl rfl Try.func18 (by kernel_rfl) rfl #[.agg #[.int .i64 a0_0, .int .i64 a0_1, .int .i64 a0_2, .slice A0_3 l0_3.length c0_3], .slice A1 l1.length c1] rfl (by (try simp only [List.map_toArray, List.map_cons, List.map_nil]); first | done | rfl | (simp only [List.length_drop, List.length_take]; rfl)) ?_; (with_reducible refine (residual_Room.calls kj6 a0_0 a0_1 a0_2 _ _ l0_3 _ _ l1 t252 t255 _ ?side1 ?side2 ?side3 ?side4 A17.out).mono ?_); (case side1 => repeat (first | exact (Kd.C_below HR0_3.out HB.out) | (with_reducible refine Kd.C_alloc ?_ _) | (with_reducible refine Kd.C_drewN ?_ _) | (with_reducible refine Kd.C_drew ?_))); (case side2 => exact HC0_3.out); (case side3 => repeat (first | exact (Kd.C_below HR1.out HB.out) | (with_reducible refine Kd.C_alloc ?_ _) | (with_reducible refine Kd.C_drewN ?_ _) | (with_reducible refine Kd.C_drew ?_))); (case side4 => exact HC1.out); rintro e w25 ⟨v253, rfl, ho0, hb⟩; refine ⟨_, rfl, ?_⟩; have n0_ := Aside0.mk (Kd.R_lower ho0 (below_size (by repeat (first | (with_reducible first | exact HB.out | apply below_alloc | apply pw_below_drewN | apply below_drew1 | refine below_set ?_ GE250.out) | exact HB.out)))); have n1_ := Aside0.mk (blk_below (g := gb250) (o := .cells #[.int .i64 a0_0, .int .i64 a0_1, .int .i64 a0_2, .slice A0_3 l0_3.length c0_3] 27 (0, 0)) (by (with_reducible repeat first | refine blk_drewN ?_ _ | refine blk_drew ?_ | refine blk_alloc ?_ _); exact BK250.out) hb); have n2_ := Aside0.mk (below_step (by repeat (first | (with_reducible first | exact HB.out | apply below_alloc | apply pw_below_drewN | apply below_drew1 | refine below_set ?_ GE250.out) | exact HB.out)) hb); clear BK250; clear HB; have HO254 := n0_; have BK250 := n1_; have HB := n2_; clear n0_ n1_ n2_; (try clear hb); (try clear ho0); have hcz26_0 : w25.cell? ⟨gb250, 0, none⟩ = some (.int .i64 a0_0) := (blk_cell BK250.out 0).trans rfl; have hcz26_1 : w25.cell? ⟨gb250, 1, none⟩ = some (.int .i64 a0_1) := (blk_cell BK250.out 1).trans rfl; have hcz26_2 : w25.cell? ⟨gb250, 2, none⟩ = some (.int .i64 a0_2) := (blk_cell BK250.out 2).trans rfl; have hcz26_3 : w25.cell? ⟨gb250, 3, none⟩ = some (.slice A0_3 l0_3.length c0_3) := (blk_cell BK250.out 3).trans rfl; have hfz26_0 := blk_frozen BK250.out 0; have hfz26_1 := blk_frozen BK250.out 1; have hfz26_2 := blk_frozen BK250.out 2; have hfz26_3 := blk_frozen BK250.out 3) | ((with_reducible refine gate_callee (f := 36) rfl ?_); refine goesL_ (some 58) rfl rfl Try.func36 (by kernel_rfl) rfl #[.agg #[.int .i64 a0_0, .int .i64 a0_1, .int .i64 a0_2, .slice A0_3 l0_3.length c0_3], .slice A1 l1.length c1] rfl (by (try simp only [List.map_toArray, List.map_cons, List.map_nil]); first | done | rfl | (simp only [List.length_drop, List.length_take]; rfl)) ?_; (with_reducible refine (racewayref6_Room.calls kj6 a0_0 a0_1 a0_2 _ _ l0_3 _ _ l1 t256 t259 _ ?side1 ?side2 ?side3 ?side4 A18.out).mono ?_); (case side1 => repeat (first | exact (Kd.C_below HR0_3.out HB.out) | (with_reducible refine Kd.C_alloc ?_ _) | (with_reducible refine Kd.C_drewN ?_ _) | (with_reducible refine Kd.C_drew ?_))); (case side2 => exact HC0_3.out); (case side3 => repeat (first | exact (Kd.C_below HR1.out HB.out) | (with_reducible refine Kd.C_alloc ?_ _) | (with_reducible refine Kd.C_drewN ?_ _) | (with_reducible refine Kd.C_drew ?_))); (case side4 => exact HC1.out); rintro e w27 ⟨v257, rfl, ho0, hb⟩; refine ⟨_, rfl, ?_⟩; have n0_ := Aside0.mk (Kd.R_elder' (by (with_reducible repeat first | apply Kd.R_alloc | apply Kd.R_drewN | apply Kd.R_drew); exact HO254.out) (Kd.R_base ho0) hb); have n1_ := Aside0.mk (Kd.R_lower (Kd.R_new' ho0 (Kd.R_lt (by (with_reducible repeat first | apply Kd.R_alloc | apply Kd.R_drewN | apply Kd.R_drew); exact HO254.out))) (below_size (by repeat (first | (with_reducible first | exact HB.out | apply below_alloc | apply pw_below_drewN | apply below_drew1 | refine below_set ?_ GE250.out) | exact HB.out)))); have n2_ := Aside0.mk (blk_below (g := gb250) (o := .cells #[.int .i64 a0_0, .int .i64 a0_1, .int .i64 a0_2, .slice A0_3 l0_3.length c0_3] 27 (0, 0)) (by (with_reducible repeat first | refine blk_drewN ?_ _ | refine blk_drew ?_ | refine blk_alloc ?_ _); exact BK250.out) hb); have n3_ := Aside0.mk (below_step (by repeat (first | (with_reducible first | exact HB.out | apply below_alloc | apply pw_below_drewN | apply below_drew1 | refine below_set ?_ GE250.out) | exact HB.out)) hb); clear HO254; clear BK250; clear HB; have HO254 := n0_; have HO258 := n1_; have BK250 := n2_; have HB := n3_; clear n0_ n1_ n2_ n3_; (try clear hb); (try clear ho0); have hcz28_0 : w27.cell? ⟨gb250, 0, none⟩ = some (.int .i64 a0_0) := (blk_cell BK250.out 0).trans rfl; have hcz28_1 : w27.cell? ⟨gb250, 1, none⟩ = some (.int .i64 a0_1) := (blk_cell BK250.out 1).trans rfl; have hcz28_2 : w27.cell? ⟨gb250, 2, none⟩ = some (.int .i64 a0_2) := (blk_cell BK250.out 2).trans rfl; have hcz28_3 : w27.cell? ⟨gb250, 3, none⟩ = some (.slice A0_3 l0_3.length c0_3) := (blk_cell BK250.out 3).trans rfl; have hfz28_0 := blk_frozen BK250.out 0; have hfz28_1 := blk_frozen BK250.out 1; have hfz28_2 := blk_frozen BK250.out 2; have hfz28_3 := blk_frozen BK250.out 3) | ((with_reducible refine gate_callee (f := 28) rfl ?_); refine goesL_ (some 66) rfl rfl Try.func28 (by kernel_rfl) rfl #[.agg #[.int .i64 a0_0, .int .i64 a0_1, .int .i64 a0_2, .slice A0_3 l0_3.length c0_3], .slice A1 l1.length c1, .slice A2 l2.length c2, .int .i64 a3] rfl (by (try simp only [List.map_toArray, List.map_cons, List.map_nil]); first | done | rfl | (simp only [List.length_drop, List.length_take]; rfl)) ?_; (with_reducible refine (residual_Push.calls kj6 a0_0 a0_1 a0_2 _ _ l0_3 _ _ l1 _ _ l2 a3 t260 t263 _ ?side1 ?side2 ?side3 ?side4 ?side5 ?side6 A19.out).mono ?_); (case side1 => repeat (first | exact (Kd.C_below HR0_3.out HB.out) | (with_reducible refine Kd.C_alloc ?_ _) | (with_reducible refine Kd.C_drewN ?_ _) | (with_reducible refine Kd.C_drew ?_))); (case side2 => exact HC0_3.out); (case side3 => repeat (first | exact (Kd.C_below HR1.out HB.out) | (with_reducible refine Kd.C_alloc ?_ _) | (with_reducible refine Kd.C_drewN ?_ _) | (with_reducible refine Kd.C_drew ?_))); (case side4 => exact HC1.out); (case side5 => repeat (first | exact (Kd.C_below HR2.out HB.out) | (with_reducible refine Kd.C_alloc ?_ _) | (with_reducible refine Kd.C_drewN ?_ _) | (with_reducible refine Kd.C_drew ?_))); (case side6 => exact HC2.out); rintro e w29 ⟨v261, rfl, ho0, hb⟩; refine ⟨_, rfl, ?_⟩; have n0_ := Aside0.mk (Kd.R_elder' (by (with_reducible repeat first | apply Kd.R_alloc | apply Kd.R_drewN | apply Kd.R_drew); exact HO254.out) (Kd.R_base ho0) hb); have n1_ := Aside0.mk (Kd.R_elder' (by (with_reducible repeat first | apply Kd.R_alloc | apply Kd.R_drewN | apply Kd.R_drew); exact HO258.out) (Kd.R_base ho0) hb); have n2_ := Aside0.mk (Kd.R_lower (Kd.R_new' (Kd.R_new' ho0 (Kd.R_lt (by (with_reducible repeat first | apply Kd.R_alloc | apply Kd.R_drewN | apply Kd.R_drew); exact HO254.out))) (Kd.R_lt (by (with_reducible repeat first | apply Kd.R_alloc | apply Kd.R_drewN | apply Kd.R_drew); exact HO258.out))) (below_size (by repeat (first | (with_reducible first | exact HB.out | apply below_alloc | apply pw_below_drewN | apply below_drew1 | refine below_set ?_ GE250.out) | exact HB.out)))); have n3_ := Aside0.mk (blk_below (g := gb250) (o := .cells #[.int .i64 a0_0, .int .i64 a0_1, .int .i64 a0_2, .slice A0_3 l0_3.length c0_3] 27 (0, 0)) (by (with_reducible repeat first | refine blk_drewN ?_ _ | refine blk_drew ?_ | refine blk_alloc ?_ _); exact BK250.out) hb); have n4_ := Aside0.mk (below_step (by repeat (first | (with_reducible first | exact HB.out | apply below_alloc | apply pw_below_drewN | apply below_drew1 | refine below_set ?_ GE250.out) | exact HB.out)) hb); clear HO254; clear HO258; clear BK250; clear HB; have HO254 := n0_; have HO258 := n1_; have HO262 := n2_; have BK250 := n3_; have HB := n4_; clear n0_ n1_ n2_ n3_ n4_; (try clear hb); (try clear ho0); have hcz30_0 : w29.cell? ⟨gb250, 0, none⟩ = some (.int .i64 a0_0) := (blk_cell BK250.out 0).trans rfl; have hcz30_1 : w29.cell? ⟨gb250, 1, none⟩ = some (.int .i64 a0_1) := (blk_cell BK250.out 1).trans rfl; have hcz30_2 : w29.cell? ⟨gb250, 2, none⟩ = some (.int .i64 a0_2) := (blk_cell BK250.out 2).trans rfl; have hcz30_3 : w29.cell? ⟨gb250, 3, none⟩ = some (.slice A0_3 l0_3.length c0_3) := (blk_cell BK250.out 3).trans rfl; have hfz30_0 := blk_frozen BK250.out 0; have hfz30_1 := blk_frozen BK250.out 1; have hfz30_2 := blk_frozen BK250.out 2; have hfz30_3 := blk_frozen BK250.out 3) | ((with_reducible refine gate_callee (f := 37) rfl ?_); refine goesL_ (some 74) rfl rfl Try.func37 (by kernel_rfl) rfl #[.agg #[.int .i64 a0_0, .int .i64 a0_1, .int .i64 a0_2, .slice A0_3 l0_3.length c0_3], .slice A1 l1.length c1, .slice A2 l2.length c2, .int .i64 a3] rfl (by (try simp only [List.map_toArray, List.map_cons, List.map_nil]); first | done | rfl | (simp only [List.length_drop, List.length_take]; rfl)) ?_; (with_reducible refine (racewayref6_Push.calls kj6 a0_0 a0_1 a0_2 _ _ l0_3 _ _ l1 _ _ l2 a3 t264 t267 _ ?side1 ?side2 ?side3 ?side4 ?side5 ?side6 A20.out).mono ?_); (case side1 => repeat (first | exact (Kd.C_below HR0_3.out HB.out) | (with_reducible refine Kd.C_alloc ?_ _) | (with_reducible refine Kd.C_drewN ?_ _) | (with_reducible refine Kd.C_drew ?_))); (case side2 => exact HC0_3.out); (case side3 => repeat (first | exact (Kd.C_below HR1.out HB.out) | (with_reducible refine Kd.C_alloc ?_ _) | (with_reducible refine Kd.C_drewN ?_ _) | (with_reducible refine Kd.C_drew ?_))); (case side4 => exact HC1.out); (case side5 => repeat (first | exact (Kd.C_below HR2.out HB.out) | (with_reducible refine Kd.C_alloc ?_ _) | (with_reducible refine Kd.C_drewN ?_ _) | (with_reducible refine Kd.C_drew ?_))); (case side6 => exact HC2.out); rintro e w31 ⟨v265, rfl, ho0, hb⟩; refine ⟨_, rfl, ?_⟩; have n0_ := Aside0.mk (Kd.R_elder' (by (with_reducible repeat first | apply Kd.R_alloc | apply Kd.R_drewN | apply Kd.R_drew); exact HO254.out) (Kd.R_base ho0) hb); have n1_ := Aside0.mk (Kd.R_elder' (by (with_reducible repeat first | apply Kd.R_alloc | apply Kd.R_drewN | apply Kd.R_drew); exact HO258.out) (Kd.R_base ho0) hb); have n2_ := Aside0.mk (Kd.R_elder' (by (with_reducible repeat first | apply Kd.R_alloc | apply Kd.R_drewN | apply Kd.R_drew); exact HO262.out) (Kd.R_base ho0) hb); have n3_ := Aside0.mk (Kd.R_lower (Kd.R_new' (Kd.R_new' (Kd.R_new' ho0 (Kd.R_lt (by (with_reducible repeat first | apply Kd.R_alloc | apply Kd.R_drewN | apply Kd.R_drew); exact HO254.out))) (Kd.R_lt (by (with_reducible repeat first | apply Kd.R_alloc | apply Kd.R_drewN | apply Kd.R_drew); exact HO258.out))) (Kd.R_lt (by (with_reducible repeat first | apply Kd.R_alloc | apply Kd.R_drewN | apply Kd.R_drew); exact HO262.out))) (below_size (by repeat (first | (with_reducible first | exact HB.out | apply below_alloc | apply pw_below_drewN | apply below_drew1 | refine below_set ?_ GE250.out) | exact HB.out)))); have n4_ := Aside0.mk (blk_below (g := gb250) (o := .cells #[.int .i64 a0_0, .int .i64 a0_1, .int .i64 a0_2, .slice A0_3 l0_3.length c0_3] 27 (0, 0)) (by (with_reducible repeat first | refine blk_drewN ?_ _ | refine blk_drew ?_ | refine blk_alloc ?_ _); exact BK250.out) hb); have n5_ := Aside0.mk (below_step (by repeat (first | (with_reducible first | exact HB.out | apply below_alloc | apply pw_below_drewN | apply below_drew1 | refine below_set ?_ GE250.out) | exact HB.out)) hb); clear HO254; clear HO258; clear HO262; clear BK250; clear HB; have HO254 := n0_; have HO258 := n1_; have HO262 := n2_; have HO266 := n3_; have BK250 := n4_; have HB := n5_; clear n0_ n1_ n2_ n3_ n4_ n5_; (try clear hb); (try clear ho0); have hcz32_0 : w31.cell? ⟨gb250, 0, none⟩ = some (.int .i64 a0_0) := (blk_cell BK250.out 0).trans rfl; have hcz32_1 : w31.cell? ⟨gb250, 1, none⟩ = some (.int .i64 a0_1) := (blk_cell BK250.out 1).trans rfl; have hcz32_2 : w31.cell? ⟨gb250, 2, none⟩ = some (.int .i64 a0_2) := (blk_cell BK250.out 2).trans rfl; have hcz32_3 : w31.cell? ⟨gb250, 3, none⟩ = some (.slice A0_3 l0_3.length c0_3) := (blk_cell BK250.out 3).trans rfl; have hfz32_0 := blk_frozen BK250.out 0; have hfz32_1 := blk_frozen BK250.out 1; have hfz32_2 := blk_frozen BK250.out 2; have hfz32_3 := blk_frozen BK250.out 3) | ((with_reducible refine gate_callee (f := 19) rfl ?_); refine goesL_ (some 81) rfl rfl Try.func19 (by kernel_rfl) rfl #[.agg #[.int .i64 a0_0, .int .i64 a0_1, .int .i64 a0_2, .slice A0_3 l0_3.length c0_3], .slice A1 l1.length c1, .int .i64 a4] rfl (by (try simp only [List.map_toArray, List.map_cons, List.map_nil]); first | done | rfl | (simp only [List.length_drop, List.length_take]; rfl)) ?_; (with_reducible refine (residual_Reach.calls kj6 a0_0 a0_1 a0_2 _ _ l0_3 _ _ l1 a4 t268 t271 _ ?side1 ?side2 ?side3 ?side4 A21.out).mono ?_); (case side1 => repeat (first | exact (Kd.C_below HR0_3.out HB.out) | (with_reducible refine Kd.C_alloc ?_ _) | (with_reducible refine Kd.C_drewN ?_ _) | (with_reducible refine Kd.C_drew ?_))); (case side2 => exact HC0_3.out); (case side3 => repeat (first | exact (Kd.C_below HR1.out HB.out) | (with_reducible refine Kd.C_alloc ?_ _) | (with_reducible refine Kd.C_drewN ?_ _) | (with_reducible refine Kd.C_drew ?_))); (case side4 => exact HC1.out); rintro e w33 ⟨v269, rfl, ho0, hb⟩; refine ⟨_, rfl, ?_⟩; have n0_ := Aside0.mk (Kd.R_below (by (with_reducible repeat first | apply Kd.R_alloc | apply Kd.R_drewN | apply Kd.R_drew); exact HO254.out) hb); have n1_ := Aside0.mk (Kd.R_below (by (with_reducible repeat first | apply Kd.R_alloc | apply Kd.R_drewN | apply Kd.R_drew); exact HO258.out) hb); have n2_ := Aside0.mk (Kd.R_below (by (with_reducible repeat first | apply Kd.R_alloc | apply Kd.R_drewN | apply Kd.R_drew); exact HO262.out) hb); have n3_ := Aside0.mk (Kd.R_below (by (with_reducible repeat first | apply Kd.R_alloc | apply Kd.R_drewN | apply Kd.R_drew); exact HO266.out) hb); have n4_ := Aside0.mk (Kd.R_lower ho0 (below_size (by repeat (first | (with_reducible first | exact HB.out | apply below_alloc | apply pw_below_drewN | apply below_drew1 | refine below_set ?_ GE250.out) | exact HB.out)))); have n5_ := Aside0.mk (blk_below (g := gb250) (o := .cells #[.int .i64 a0_0, .int .i64 a0_1, .int .i64 a0_2, .slice A0_3 l0_3.length c0_3] 27 (0, 0)) (by (with_reducible repeat first | refine blk_drewN ?_ _ | refine blk_drew ?_ | refine blk_alloc ?_ _); exact BK250.out) hb); have n6_ := Aside0.mk (below_step (by repeat (first | (with_reducible first | exact HB.out | apply below_alloc | apply pw_below_drewN | apply below_drew1 | refine below_set ?_ GE250.out) | exact HB.out)) hb); clear HO254; clear HO258; clear HO262; clear HO266; clear BK250; clear HB; have HO254 := n0_; have HO258 := n1_; have HO262 := n2_; have HO266 := n3_; have HO270 := n4_; have BK250 := n5_; have HB := n6_; clear n0_ n1_ n2_ n3_ n4_ n5_ n6_; (try clear hb); (try clear ho0); have hcz34_0 : w33.cell? ⟨gb250, 0, none⟩ = some (.int .i64 a0_0) := (blk_cell BK250.out 0).trans rfl; have hcz34_1 : w33.cell? ⟨gb250, 1, none⟩ = some (.int .i64 a0_1) := (blk_cell BK250.out 1).trans rfl; have hcz34_2 : w33.cell? ⟨gb250, 2, none⟩ = some (.int .i64 a0_2) := (blk_cell BK250.out 2).trans rfl; have hcz34_3 : w33.cell? ⟨gb250, 3, none⟩ = some (.slice A0_3 l0_3.length c0_3) := (blk_cell BK250.out 3).trans rfl; have hfz34_0 := blk_frozen BK250.out 0; have hfz34_1 := blk_frozen BK250.out 1; have hfz34_2 := blk_frozen BK250.out 2; have hfz34_3 := blk_frozen BK250.out 3) | ((with_reducible refine gate_callee (f := 38) rfl ?_); refine goesL_ (some 88) rfl rfl Try.func38 (by kernel_rfl) rfl #[.agg #[.int .i64 a0_0, .int .i64 a0_1, .int .i64 a0_2, .slice A0_3 l0_3.length c0_3], .slice A1 l1.length c1, .int .i64 a4] rfl (by (try simp only [List.map_toArray, List.map_cons, List.map_nil]); first | done | rfl | (simp only [List.length_drop, List.length_take]; rfl)) ?_; (with_reducible refine (racewayref6_Reach.calls kj6 a0_0 a0_1 a0_2 _ _ l0_3 _ _ l1 a4 t272 t275 _ ?side1 ?side2 ?side3 ?side4 A22.out).mono ?_); (case side1 => repeat (first | exact (Kd.C_below HR0_3.out HB.out) | (with_reducible refine Kd.C_alloc ?_ _) | (with_reducible refine Kd.C_drewN ?_ _) | (with_reducible refine Kd.C_drew ?_))); (case side2 => exact HC0_3.out); (case side3 => repeat (first | exact (Kd.C_below HR1.out HB.out) | (with_reducible refine Kd.C_alloc ?_ _) | (with_reducible refine Kd.C_drewN ?_ _) | (with_reducible refine Kd.C_drew ?_))); (case side4 => exact HC1.out); rintro e w35 ⟨v273, rfl, ho0, hb⟩; refine ⟨_, rfl, ?_⟩; have n0_ := Aside0.mk (Kd.R_below (by (with_reducible repeat first | apply Kd.R_alloc | apply Kd.R_drewN | apply Kd.R_drew); exact HO254.out) hb); have n1_ := Aside0.mk (Kd.R_below (by (with_reducible repeat first | apply Kd.R_alloc | apply Kd.R_drewN | apply Kd.R_drew); exact HO258.out) hb); have n2_ := Aside0.mk (Kd.R_below (by (with_reducible repeat first | apply Kd.R_alloc | apply Kd.R_drewN | apply Kd.R_drew); exact HO262.out) hb); have n3_ := Aside0.mk (Kd.R_below (by (with_reducible repeat first | apply Kd.R_alloc | apply Kd.R_drewN | apply Kd.R_drew); exact HO266.out) hb); have n4_ := Aside0.mk (Kd.R_elder' (by (with_reducible repeat first | apply Kd.R_alloc | apply Kd.R_drewN | apply Kd.R_drew); exact HO270.out) (Kd.R_base ho0) hb); have n5_ := Aside0.mk (Kd.R_lower (Kd.R_new' ho0 (Kd.R_lt (by (with_reducible repeat first | apply Kd.R_alloc | apply Kd.R_drewN | apply Kd.R_drew); exact HO270.out))) (below_size (by repeat (first | (with_reducible first | exact HB.out | apply below_alloc | apply pw_below_drewN | apply below_drew1 | refine below_set ?_ GE250.out) | exact HB.out)))); have n6_ := Aside0.mk (blk_below (g := gb250) (o := .cells #[.int .i64 a0_0, .int .i64 a0_1, .int .i64 a0_2, .slice A0_3 l0_3.length c0_3] 27 (0, 0)) (by (with_reducible repeat first | refine blk_drewN ?_ _ | refine blk_drew ?_ | refine blk_alloc ?_ _); exact BK250.out) hb); have n7_ := Aside0.mk (below_step (by repeat (first | (with_reducible first | exact HB.out | apply below_alloc | apply pw_below_drewN | apply below_drew1 | refine below_set ?_ GE250.out) | exact HB.out)) hb); clear HO254; clear HO258; clear HO262; clear HO266; clear HO270; clear BK250; clear HB; have HO254 := n0_; have HO258 := n1_; have HO262 := n2_; have HO266 := n3_; have HO270 := n4_; have HO274 := n5_; have BK250 := n6_; have HB := n7_; clear n0_ n1_ n2_ n3_ n4_ n5_ n6_ n7_; (try clear hb); (try clear ho0)))
    (try simp only [Act.put, List.setIfInBounds_toArray, List.set_cons_zero, List.set_cons_succ])
    go_cut [121] (fun v121 wc => ∃ (kq : Nat) (x121_22 : Bool), v121 = .bool x121_22 ∧ Aside0 (racewaylaw6_ResidualTells.j1 kq l2 x121_22 a0_0 a0_1 a0_2 l0_3 = some r) ∧ Aside0 (kq ≤ kj6) ∧ Aside0 (wc.heap[gb250]? = some (.cells #[.int .i64 a0_0, .int .i64 a0_1, .int .i64 a0_2, (.slice A0_3 l0_3.length c0_3)] 27 (0, 0))) ∧ Aside0 (Below w.heap.size w wc))
    case first =>
     (have H := HC23.out);(clear HC23);(replace H := Option.bind_eq_some_iff.mp H);(obtain ⟨t276, A360, H⟩ := H);(replace H : (if t276 = true then (if t255 = t259 then ((racewayref5_Same.f kj6 t260 t264).bind fun t277 => (if t277 = true then (if t263 = t267 then ((racewaylaw6_sameBools.f kj6 t268 t272).bind fun t278 => (if t278 = true then (racewaylaw6_ResidualTells.j1 kj6 l2 (t271 != t275) a0_0 a0_1 a0_2 l0_3) else (racewaylaw6_ResidualTells.j1 kj6 l2 true a0_0 a0_1 a0_2 l0_3))) else (racewaylaw6_ResidualTells.j1 kj6 l2 true a0_0 a0_1 a0_2 l0_3)) else (racewaylaw6_ResidualTells.j1 kj6 l2 true a0_0 a0_1 a0_2 l0_3))) else (racewaylaw6_ResidualTells.j1 kj6 l2 true a0_0 a0_1 a0_2 l0_3)) else (racewaylaw6_ResidualTells.j1 kj6 l2 true a0_0 a0_1 a0_2 l0_3)) = some r := H);(have A36 := Aside0.mk A360);(clear A360)
     by_cases c37 : t276 = true
     ·(subst c37);(have H1 : (if t255 = t259 then ((racewayref5_Same.f kj6 t260 t264).bind fun t277 => (if t277 = true then (if t263 = t267 then ((racewaylaw6_sameBools.f kj6 t268 t272).bind fun t278 => (if t278 = true then (racewaylaw6_ResidualTells.j1 kj6 l2 (t271 != t275) a0_0 a0_1 a0_2 l0_3) else (racewaylaw6_ResidualTells.j1 kj6 l2 true a0_0 a0_1 a0_2 l0_3))) else (racewaylaw6_ResidualTells.j1 kj6 l2 true a0_0 a0_1 a0_2 l0_3)) else (racewaylaw6_ResidualTells.j1 kj6 l2 true a0_0 a0_1 a0_2 l0_3))) else (racewaylaw6_ResidualTells.j1 kj6 l2 true a0_0 a0_1 a0_2 l0_3)) = some r := by rw [if_pos rfl] at H; exact H);(clear H);(have H := H1);(clear H1)
      by_cases c38 : t255 = t259
      ·(rw [if_pos c38] at H);(have c38b0 : (t255 == t259) = true := beq_iff_eq.mpr c38);(have c38b1 : (t255 != t259) = false := bne_eq_false_iff_eq.mpr c38);(clear c38);((first | rw [c38b0] | (simp only [i64_w, i32_w]; rw [c38b0]) | skip));(replace H := Option.bind_eq_some_iff.mp H);(obtain ⟨t277, A390, H⟩ := H);(replace H : (if t277 = true then (if t263 = t267 then ((racewaylaw6_sameBools.f kj6 t268 t272).bind fun t278 => (if t278 = true then (racewaylaw6_ResidualTells.j1 kj6 l2 (t271 != t275) a0_0 a0_1 a0_2 l0_3) else (racewaylaw6_ResidualTells.j1 kj6 l2 true a0_0 a0_1 a0_2 l0_3))) else (racewaylaw6_ResidualTells.j1 kj6 l2 true a0_0 a0_1 a0_2 l0_3)) else (racewaylaw6_ResidualTells.j1 kj6 l2 true a0_0 a0_1 a0_2 l0_3)) = some r := H);(have A39 := Aside0.mk A390);(clear A390)
       by_cases c40 : t277 = true
       ·(subst c40);(have H1 : (if t263 = t267 then ((racewaylaw6_sameBools.f kj6 t268 t272).bind fun t278 => (if t278 = true then (racewaylaw6_ResidualTells.j1 kj6 l2 (t271 != t275) a0_0 a0_1 a0_2 l0_3) else (racewaylaw6_ResidualTells.j1 kj6 l2 true a0_0 a0_1 a0_2 l0_3))) else (racewaylaw6_ResidualTells.j1 kj6 l2 true a0_0 a0_1 a0_2 l0_3)) = some r := by rw [if_pos rfl] at H; exact H);(clear H);(have H := H1);(clear H1)
        by_cases c41 : t263 = t267
        ·(rw [if_pos c41] at H);(have c41b0 : (t263 == t267) = true := beq_iff_eq.mpr c41);(have c41b1 : (t263 != t267) = false := bne_eq_false_iff_eq.mpr c41);(clear c41);(replace H := Option.bind_eq_some_iff.mp H);(obtain ⟨t278, A420, H⟩ := H);(replace H : (if t278 = true then (racewaylaw6_ResidualTells.j1 kj6 l2 (t271 != t275) a0_0 a0_1 a0_2 l0_3) else (racewaylaw6_ResidualTells.j1 kj6 l2 true a0_0 a0_1 a0_2 l0_3)) = some r := H);(have A42 := Aside0.mk A420);(clear A420)
         by_cases c43 : t278 = true
         ·(subst c43);(have H1 : (racewaylaw6_ResidualTells.j1 kj6 l2 (t271 != t275) a0_0 a0_1 a0_2 l0_3) = some r := by rw [if_pos rfl] at H; exact H);(clear H);(have H := H1);(clear H1)
          as_aux_lemma =>
           (have H' := Aside0.mk H);(clear H);(obtain ⟨Ao44, co44, eo44⟩ := Kd.R_slice HO254.out);(subst eo44);(obtain ⟨Ao45, co45, eo45⟩ := Kd.R_slice HO258.out);(subst eo45)
           go_wp2_with (first | ((with_reducible refine gate_callee (f := 29) rfl ?_); refine goesL_ (some 93) rfl rfl Try.func29 (by kernel_rfl) rfl #[.slice Ao44 t252.length co44, .slice Ao45 t256.length co45] rfl (by (try simp only [List.map_toArray, List.map_cons, List.map_nil]); first | done | rfl | (simp only [List.length_drop, List.length_take]; rfl)) ?_; (with_reducible refine (racewayref5_Same.calls kj6 _ _ t252 _ _ t256 true _ ?side1 ?side2 ?side3 ?side4 A36.out).mono ?_); (case side1 => repeat (first | exact (Kd.R_reads' HO254.out).2.2 | (with_reducible refine Kd.C_alloc ?_ _) | (with_reducible refine Kd.C_drewN ?_ _) | (with_reducible refine Kd.C_drew ?_))); (case side2 => exact (Kd.R_reads' HO254.out).2.1); (case side3 => repeat (first | exact (Kd.R_reads' HO258.out).2.2 | (with_reducible refine Kd.C_alloc ?_ _) | (with_reducible refine Kd.C_drewN ?_ _) | (with_reducible refine Kd.C_drew ?_))); (case side4 => exact (Kd.R_reads' HO258.out).2.1); rintro e w' ⟨rfl, ⟨nd, rfl⟩⟩; refine ⟨_, rfl, ?_⟩; obtain ⟨Ao46, co46, eo46⟩ := Kd.R_slice HO262.out; subst eo46; obtain ⟨Ao47, co47, eo47⟩ := Kd.R_slice HO266.out; subst eo47) | (go_at_call 29; (with_reducible refine (racewayref5_Same.calls kj6 _ _ t260 _ _ t264 true _ ?side1 ?side2 ?side3 ?side4 A39.out).mono ?_); (case side1 => repeat (first | exact (Kd.R_reads' HO262.out).2.2 | (with_reducible refine Kd.C_alloc ?_ _) | (with_reducible refine Kd.C_drewN ?_ _) | (with_reducible refine Kd.C_drew ?_))); (case side2 => exact (Kd.R_reads' HO262.out).2.1); (case side3 => repeat (first | exact (Kd.R_reads' HO266.out).2.2 | (with_reducible refine Kd.C_alloc ?_ _) | (with_reducible refine Kd.C_drewN ?_ _) | (with_reducible refine Kd.C_drew ?_))); (case side4 => exact (Kd.R_reads' HO266.out).2.1); rintro e w' ⟨rfl, ⟨nd, rfl⟩⟩; obtain ⟨Ao48, co48, eo48⟩ := Kd.R_slice HO270.out; subst eo48; obtain ⟨Ao49, co49, eo49⟩ := Kd.R_slice HO274.out; subst eo49) | (go_at_call 39; (with_reducible refine (racewaylaw6_sameBools.calls kj6 _ _ t268 _ _ t272 true _ ?side1 ?side2 ?side3 ?side4 A42.out).mono ?_); (case side1 => repeat (first | exact (Kd.R_reads' HO270.out).2.2 | (with_reducible refine Kd.C_alloc ?_ _) | (with_reducible refine Kd.C_drewN ?_ _) | (with_reducible refine Kd.C_drew ?_))); (case side2 => exact (Kd.R_reads' HO270.out).2.1); (case side3 => repeat (first | exact (Kd.R_reads' HO274.out).2.2 | (with_reducible refine Kd.C_alloc ?_ _) | (with_reducible refine Kd.C_drewN ?_ _) | (with_reducible refine Kd.C_drew ?_))); (case side4 => exact (Kd.R_reads' HO274.out).2.1); rintro e w' ⟨rfl, ⟨nd, rfl⟩⟩))
           go_meet
           case rel => exact ⟨_, ((t271 != t275)), (by first | rfl | (simp; done) | (simp [*]; done)), H', ⟨by have := HJ6.out; first | omega | exact Nat.le_refl _⟩, ⟨by (with_reducible repeat first | refine blk_drewN ?_ _ | refine blk_drew ?_ | refine blk_alloc ?_ _); exact BK250.out⟩, ⟨by repeat (first | (with_reducible first | exact HB.out | apply below_alloc | apply pw_below_drewN | apply below_drew1 | refine below_set ?_ GE250.out) | exact HB.out)⟩⟩
         ·(replace c43 := Bool.eq_false_iff.mpr c43);(subst c43);(have H1 : (racewaylaw6_ResidualTells.j1 kj6 l2 true a0_0 a0_1 a0_2 l0_3) = some r := by rw [if_neg (show ¬ (false = true) by decide)] at H; exact H);(clear H);(have H := H1);(clear H1)
          as_aux_lemma =>
           (have H' := Aside0.mk H);(clear H);(obtain ⟨Ao50, co50, eo50⟩ := Kd.R_slice HO254.out);(subst eo50);(obtain ⟨Ao51, co51, eo51⟩ := Kd.R_slice HO258.out);(subst eo51)
           go_wp2_with (first | ((with_reducible refine gate_callee (f := 29) rfl ?_); refine goesL_ (some 93) rfl rfl Try.func29 (by kernel_rfl) rfl #[.slice Ao50 t252.length co50, .slice Ao51 t256.length co51] rfl (by (try simp only [List.map_toArray, List.map_cons, List.map_nil]); first | done | rfl | (simp only [List.length_drop, List.length_take]; rfl)) ?_; (with_reducible refine (racewayref5_Same.calls kj6 _ _ t252 _ _ t256 true _ ?side1 ?side2 ?side3 ?side4 A36.out).mono ?_); (case side1 => repeat (first | exact (Kd.R_reads' HO254.out).2.2 | (with_reducible refine Kd.C_alloc ?_ _) | (with_reducible refine Kd.C_drewN ?_ _) | (with_reducible refine Kd.C_drew ?_))); (case side2 => exact (Kd.R_reads' HO254.out).2.1); (case side3 => repeat (first | exact (Kd.R_reads' HO258.out).2.2 | (with_reducible refine Kd.C_alloc ?_ _) | (with_reducible refine Kd.C_drewN ?_ _) | (with_reducible refine Kd.C_drew ?_))); (case side4 => exact (Kd.R_reads' HO258.out).2.1); rintro e w' ⟨rfl, ⟨nd, rfl⟩⟩; refine ⟨_, rfl, ?_⟩; obtain ⟨Ao52, co52, eo52⟩ := Kd.R_slice HO262.out; subst eo52; obtain ⟨Ao53, co53, eo53⟩ := Kd.R_slice HO266.out; subst eo53) | (go_at_call 29; (with_reducible refine (racewayref5_Same.calls kj6 _ _ t260 _ _ t264 true _ ?side1 ?side2 ?side3 ?side4 A39.out).mono ?_); (case side1 => repeat (first | exact (Kd.R_reads' HO262.out).2.2 | (with_reducible refine Kd.C_alloc ?_ _) | (with_reducible refine Kd.C_drewN ?_ _) | (with_reducible refine Kd.C_drew ?_))); (case side2 => exact (Kd.R_reads' HO262.out).2.1); (case side3 => repeat (first | exact (Kd.R_reads' HO266.out).2.2 | (with_reducible refine Kd.C_alloc ?_ _) | (with_reducible refine Kd.C_drewN ?_ _) | (with_reducible refine Kd.C_drew ?_))); (case side4 => exact (Kd.R_reads' HO266.out).2.1); rintro e w' ⟨rfl, ⟨nd, rfl⟩⟩; obtain ⟨Ao54, co54, eo54⟩ := Kd.R_slice HO270.out; subst eo54; obtain ⟨Ao55, co55, eo55⟩ := Kd.R_slice HO274.out; subst eo55) | (go_at_call 39; (with_reducible refine (racewaylaw6_sameBools.calls kj6 _ _ t268 _ _ t272 false _ ?side1 ?side2 ?side3 ?side4 A42.out).mono ?_); (case side1 => repeat (first | exact (Kd.R_reads' HO270.out).2.2 | (with_reducible refine Kd.C_alloc ?_ _) | (with_reducible refine Kd.C_drewN ?_ _) | (with_reducible refine Kd.C_drew ?_))); (case side2 => exact (Kd.R_reads' HO270.out).2.1); (case side3 => repeat (first | exact (Kd.R_reads' HO274.out).2.2 | (with_reducible refine Kd.C_alloc ?_ _) | (with_reducible refine Kd.C_drewN ?_ _) | (with_reducible refine Kd.C_drew ?_))); (case side4 => exact (Kd.R_reads' HO274.out).2.1); rintro e w' ⟨rfl, ⟨nd, rfl⟩⟩))
           go_meet
           case rel => exact ⟨_, (true), (by first | rfl | (simp; done) | (simp [*]; done)), H', ⟨by have := HJ6.out; first | omega | exact Nat.le_refl _⟩, ⟨by (with_reducible repeat first | refine blk_drewN ?_ _ | refine blk_drew ?_ | refine blk_alloc ?_ _); exact BK250.out⟩, ⟨by repeat (first | (with_reducible first | exact HB.out | apply below_alloc | apply pw_below_drewN | apply below_drew1 | refine below_set ?_ GE250.out) | exact HB.out)⟩⟩
        ·(rw [if_neg c41] at H);(have c41b0 : (t263 == t267) = false := beq_eq_false_iff_ne.mpr c41);(have c41b1 : (t263 != t267) = true := bne_iff_ne.mpr c41)
         as_aux_lemma =>
          (have H' := Aside0.mk H);(clear H);(obtain ⟨Ao56, co56, eo56⟩ := Kd.R_slice HO254.out);(subst eo56);(obtain ⟨Ao57, co57, eo57⟩ := Kd.R_slice HO258.out);(subst eo57)
          go_wp2_with (first | ((with_reducible refine gate_callee (f := 29) rfl ?_); refine goesL_ (some 93) rfl rfl Try.func29 (by kernel_rfl) rfl #[.slice Ao56 t252.length co56, .slice Ao57 t256.length co57] rfl (by (try simp only [List.map_toArray, List.map_cons, List.map_nil]); first | done | rfl | (simp only [List.length_drop, List.length_take]; rfl)) ?_; (with_reducible refine (racewayref5_Same.calls kj6 _ _ t252 _ _ t256 true _ ?side1 ?side2 ?side3 ?side4 A36.out).mono ?_); (case side1 => repeat (first | exact (Kd.R_reads' HO254.out).2.2 | (with_reducible refine Kd.C_alloc ?_ _) | (with_reducible refine Kd.C_drewN ?_ _) | (with_reducible refine Kd.C_drew ?_))); (case side2 => exact (Kd.R_reads' HO254.out).2.1); (case side3 => repeat (first | exact (Kd.R_reads' HO258.out).2.2 | (with_reducible refine Kd.C_alloc ?_ _) | (with_reducible refine Kd.C_drewN ?_ _) | (with_reducible refine Kd.C_drew ?_))); (case side4 => exact (Kd.R_reads' HO258.out).2.1); rintro e w' ⟨rfl, ⟨nd, rfl⟩⟩; refine ⟨_, rfl, ?_⟩; obtain ⟨Ao58, co58, eo58⟩ := Kd.R_slice HO262.out; subst eo58; obtain ⟨Ao59, co59, eo59⟩ := Kd.R_slice HO266.out; subst eo59) | (go_at_call 29; (with_reducible refine (racewayref5_Same.calls kj6 _ _ t260 _ _ t264 true _ ?side1 ?side2 ?side3 ?side4 A39.out).mono ?_); (case side1 => repeat (first | exact (Kd.R_reads' HO262.out).2.2 | (with_reducible refine Kd.C_alloc ?_ _) | (with_reducible refine Kd.C_drewN ?_ _) | (with_reducible refine Kd.C_drew ?_))); (case side2 => exact (Kd.R_reads' HO262.out).2.1); (case side3 => repeat (first | exact (Kd.R_reads' HO266.out).2.2 | (with_reducible refine Kd.C_alloc ?_ _) | (with_reducible refine Kd.C_drewN ?_ _) | (with_reducible refine Kd.C_drew ?_))); (case side4 => exact (Kd.R_reads' HO266.out).2.1); rintro e w' ⟨rfl, ⟨nd, rfl⟩⟩))
          go_meet
          case rel => exact ⟨_, (true), (by first | rfl | (simp; done) | (simp [*]; done)), H', ⟨by have := HJ6.out; first | omega | exact Nat.le_refl _⟩, ⟨by (with_reducible repeat first | refine blk_drewN ?_ _ | refine blk_drew ?_ | refine blk_alloc ?_ _); exact BK250.out⟩, ⟨by repeat (first | (with_reducible first | exact HB.out | apply below_alloc | apply pw_below_drewN | apply below_drew1 | refine below_set ?_ GE250.out) | exact HB.out)⟩⟩
       ·(replace c40 := Bool.eq_false_iff.mpr c40);(subst c40);(have H1 : (racewaylaw6_ResidualTells.j1 kj6 l2 true a0_0 a0_1 a0_2 l0_3) = some r := by rw [if_neg (show ¬ (false = true) by decide)] at H; exact H);(clear H);(have H := H1);(clear H1)
        as_aux_lemma =>
         (have H' := Aside0.mk H);(clear H);(obtain ⟨Ao60, co60, eo60⟩ := Kd.R_slice HO254.out);(subst eo60);(obtain ⟨Ao61, co61, eo61⟩ := Kd.R_slice HO258.out);(subst eo61)
         go_wp2_with (first | ((with_reducible refine gate_callee (f := 29) rfl ?_); refine goesL_ (some 93) rfl rfl Try.func29 (by kernel_rfl) rfl #[.slice Ao60 t252.length co60, .slice Ao61 t256.length co61] rfl (by (try simp only [List.map_toArray, List.map_cons, List.map_nil]); first | done | rfl | (simp only [List.length_drop, List.length_take]; rfl)) ?_; (with_reducible refine (racewayref5_Same.calls kj6 _ _ t252 _ _ t256 true _ ?side1 ?side2 ?side3 ?side4 A36.out).mono ?_); (case side1 => repeat (first | exact (Kd.R_reads' HO254.out).2.2 | (with_reducible refine Kd.C_alloc ?_ _) | (with_reducible refine Kd.C_drewN ?_ _) | (with_reducible refine Kd.C_drew ?_))); (case side2 => exact (Kd.R_reads' HO254.out).2.1); (case side3 => repeat (first | exact (Kd.R_reads' HO258.out).2.2 | (with_reducible refine Kd.C_alloc ?_ _) | (with_reducible refine Kd.C_drewN ?_ _) | (with_reducible refine Kd.C_drew ?_))); (case side4 => exact (Kd.R_reads' HO258.out).2.1); rintro e w' ⟨rfl, ⟨nd, rfl⟩⟩; refine ⟨_, rfl, ?_⟩; obtain ⟨Ao62, co62, eo62⟩ := Kd.R_slice HO262.out; subst eo62; obtain ⟨Ao63, co63, eo63⟩ := Kd.R_slice HO266.out; subst eo63) | (go_at_call 29; (with_reducible refine (racewayref5_Same.calls kj6 _ _ t260 _ _ t264 false _ ?side1 ?side2 ?side3 ?side4 A39.out).mono ?_); (case side1 => repeat (first | exact (Kd.R_reads' HO262.out).2.2 | (with_reducible refine Kd.C_alloc ?_ _) | (with_reducible refine Kd.C_drewN ?_ _) | (with_reducible refine Kd.C_drew ?_))); (case side2 => exact (Kd.R_reads' HO262.out).2.1); (case side3 => repeat (first | exact (Kd.R_reads' HO266.out).2.2 | (with_reducible refine Kd.C_alloc ?_ _) | (with_reducible refine Kd.C_drewN ?_ _) | (with_reducible refine Kd.C_drew ?_))); (case side4 => exact (Kd.R_reads' HO266.out).2.1); rintro e w' ⟨rfl, ⟨nd, rfl⟩⟩))
         go_meet
         case rel => exact ⟨_, (true), (by first | rfl | (simp; done) | (simp [*]; done)), H', ⟨by have := HJ6.out; first | omega | exact Nat.le_refl _⟩, ⟨by (with_reducible repeat first | refine blk_drewN ?_ _ | refine blk_drew ?_ | refine blk_alloc ?_ _); exact BK250.out⟩, ⟨by repeat (first | (with_reducible first | exact HB.out | apply below_alloc | apply pw_below_drewN | apply below_drew1 | refine below_set ?_ GE250.out) | exact HB.out)⟩⟩
      ·(rw [if_neg c38] at H);(have c38b0 : (t255 == t259) = false := beq_eq_false_iff_ne.mpr c38);(have c38b1 : (t255 != t259) = true := bne_iff_ne.mpr c38);((first | rw [c38b0] | (simp only [i64_w, i32_w]; rw [c38b0]) | skip))
       as_aux_lemma =>
        (have H' := Aside0.mk H);(clear H);(obtain ⟨Ao64, co64, eo64⟩ := Kd.R_slice HO254.out);(subst eo64);(obtain ⟨Ao65, co65, eo65⟩ := Kd.R_slice HO258.out);(subst eo65)
        go_wp2_with (first | ((with_reducible refine gate_callee (f := 29) rfl ?_); refine goesL_ (some 93) rfl rfl Try.func29 (by kernel_rfl) rfl #[.slice Ao64 t252.length co64, .slice Ao65 t256.length co65] rfl (by (try simp only [List.map_toArray, List.map_cons, List.map_nil]); first | done | rfl | (simp only [List.length_drop, List.length_take]; rfl)) ?_; (with_reducible refine (racewayref5_Same.calls kj6 _ _ t252 _ _ t256 true _ ?side1 ?side2 ?side3 ?side4 A36.out).mono ?_); (case side1 => repeat (first | exact (Kd.R_reads' HO254.out).2.2 | (with_reducible refine Kd.C_alloc ?_ _) | (with_reducible refine Kd.C_drewN ?_ _) | (with_reducible refine Kd.C_drew ?_))); (case side2 => exact (Kd.R_reads' HO254.out).2.1); (case side3 => repeat (first | exact (Kd.R_reads' HO258.out).2.2 | (with_reducible refine Kd.C_alloc ?_ _) | (with_reducible refine Kd.C_drewN ?_ _) | (with_reducible refine Kd.C_drew ?_))); (case side4 => exact (Kd.R_reads' HO258.out).2.1); rintro e w' ⟨rfl, ⟨nd, rfl⟩⟩; refine ⟨_, rfl, ?_⟩))
        go_meet
        case rel => exact ⟨_, (true), (by first | rfl | (simp; done) | (simp [*]; done)), H', ⟨by have := HJ6.out; first | omega | exact Nat.le_refl _⟩, ⟨by (with_reducible repeat first | refine blk_drewN ?_ _ | refine blk_drew ?_ | refine blk_alloc ?_ _); exact BK250.out⟩, ⟨by repeat (first | (with_reducible first | exact HB.out | apply below_alloc | apply pw_below_drewN | apply below_drew1 | refine below_set ?_ GE250.out) | exact HB.out)⟩⟩
     ·(replace c37 := Bool.eq_false_iff.mpr c37);(subst c37);(have H1 : (racewaylaw6_ResidualTells.j1 kj6 l2 true a0_0 a0_1 a0_2 l0_3) = some r := by rw [if_neg (show ¬ (false = true) by decide)] at H; exact H);(clear H);(have H := H1);(clear H1)
      as_aux_lemma =>
       (have H' := Aside0.mk H);(clear H);(obtain ⟨Ao66, co66, eo66⟩ := Kd.R_slice HO254.out);(subst eo66);(obtain ⟨Ao67, co67, eo67⟩ := Kd.R_slice HO258.out);(subst eo67)
       go_wp2_with (first | ((with_reducible refine gate_callee (f := 29) rfl ?_); refine goesL_ (some 93) rfl rfl Try.func29 (by kernel_rfl) rfl #[.slice Ao66 t252.length co66, .slice Ao67 t256.length co67] rfl (by (try simp only [List.map_toArray, List.map_cons, List.map_nil]); first | done | rfl | (simp only [List.length_drop, List.length_take]; rfl)) ?_; (with_reducible refine (racewayref5_Same.calls kj6 _ _ t252 _ _ t256 false _ ?side1 ?side2 ?side3 ?side4 A36.out).mono ?_); (case side1 => repeat (first | exact (Kd.R_reads' HO254.out).2.2 | (with_reducible refine Kd.C_alloc ?_ _) | (with_reducible refine Kd.C_drewN ?_ _) | (with_reducible refine Kd.C_drew ?_))); (case side2 => exact (Kd.R_reads' HO254.out).2.1); (case side3 => repeat (first | exact (Kd.R_reads' HO258.out).2.2 | (with_reducible refine Kd.C_alloc ?_ _) | (with_reducible refine Kd.C_drewN ?_ _) | (with_reducible refine Kd.C_drew ?_))); (case side4 => exact (Kd.R_reads' HO258.out).2.1); rintro e w' ⟨rfl, ⟨nd, rfl⟩⟩; refine ⟨_, rfl, ?_⟩))
       go_meet
       case rel => exact ⟨_, (true), (by first | rfl | (simp; done) | (simp [*]; done)), H', ⟨by have := HJ6.out; first | omega | exact Nat.le_refl _⟩, ⟨by (with_reducible repeat first | refine blk_drewN ?_ _ | refine blk_drew ?_ | refine blk_alloc ?_ _); exact BK250.out⟩, ⟨by repeat (first | (with_reducible first | exact HB.out | apply below_alloc | apply pw_below_drewN | apply below_drew1 | refine below_set ?_ GE250.out) | exact HB.out)⟩⟩
    case rest =>
     clear HC23
     try clear c1
     try clear c2
     try clear p2
     try clear c3
     try clear c4
     try clear c10
     try clear c11
     try clear c11b0
     try clear c11b1
     try clear c12
     try clear c13
     try clear c13b0
     try clear c14
     try clear c16
     try clear c18
     try clear c19
     try clear c28
     try clear c29
     try clear c36
     try clear c37
     try clear c38
     try clear c38b0
     try clear c38b1
     try clear c40
     try clear c41
     try clear c41b0
     try clear c41b1
     try clear c43
     try clear hcz12_0
     try clear hcz12_1
     try clear hcz12_2
     try clear hcz12_3
     try clear hcz14_0
     try clear hcz14_1
     try clear hcz14_2
     try clear hcz14_3
     try clear hcz15_0
     try clear hcz15_1
     try clear hcz15_2
     try clear hcz15_3
     try clear hcz24_0
     try clear hcz24_1
     try clear hcz24_2
     try clear hcz24_3
     try clear hcz26_0
     try clear hcz26_1
     try clear hcz26_2
     try clear hcz26_3
     try clear hcz28_0
     try clear hcz28_1
     try clear hcz28_2
     try clear hcz28_3
     try clear hcz30_0
     try clear hcz30_1
     try clear hcz30_2
     try clear hcz30_3
     try clear hcz32_0
     try clear hcz32_1
     try clear hcz32_2
     try clear hcz32_3
     try clear hcz34_0
     try clear hcz34_1
     try clear hcz34_2
     try clear hcz34_3
     try clear hfz12_0
     try clear hfz12_1
     try clear hfz12_2
     try clear hfz12_3
     try clear hfz14_0
     try clear hfz14_1
     try clear hfz14_2
     try clear hfz14_3
     try clear hfz15_0
     try clear hfz15_1
     try clear hfz15_2
     try clear hfz15_3
     try clear hfz24_0
     try clear hfz24_1
     try clear hfz24_2
     try clear hfz24_3
     try clear hfz26_0
     try clear hfz26_1
     try clear hfz26_2
     try clear hfz26_3
     try clear hfz28_0
     try clear hfz28_1
     try clear hfz28_2
     try clear hfz28_3
     try clear hfz30_0
     try clear hfz30_1
     try clear hfz30_2
     try clear hfz30_3
     try clear hfz32_0
     try clear hfz32_1
     try clear hfz32_2
     try clear hfz32_3
     try clear hfz34_0
     try clear hfz34_1
     try clear hfz34_2
     try clear hfz34_3
     try clear p2
     obtain ⟨kq, x121_22, rfl, HA, HJ22, BK250, HB⟩ := hcut
     cases kq with
     | zero => exact absurd HA.out (by simp [racewaylaw6_ResidualTells.j1])
     | succ kj22 =>
      (have H := HA.out);(clear HA);(simp only [racewaylaw6_ResidualTells.j1] at H)
      by_cases c68 : x121_22 = true
      ·(subst c68);(have H1 : (some false) = some r := by rw [if_pos rfl] at H; exact H);(clear H);(have H := H1);(clear H1);(exact absurd ((Option.some.inj H).trans hrT_.out) (by simp))
      ·(replace c68 := Bool.eq_false_iff.mpr c68);(subst c68);(have H1 : (racewaylaw6_ResidualTells.l0 kj22 l2 0 a0_0 a0_1 a0_2 l0_3) = some r := by rw [if_neg (show ¬ (false = true) by decide)] at H; exact H);(clear H);(have H := H1);(clear H1);(have H' := Aside0.mk H);(clear H)
       go_wp2
       go_loopg [24] kj22 (fun kq v24 w' => ∃ (x24_3 : Int), v24 = .int .i64 x24_3 ∧ Aside0 (racewaylaw6_ResidualTells.l0 kq l2 x24_3 a0_0 a0_1 a0_2 l0_3 = some r) ∧ Aside0 (kq ≤ kj22) ∧ Aside0 (w'.heap[gb250]? = some (.cells #[.int .i64 a0_0, .int .i64 a0_1, .int .i64 a0_2, (.slice A0_3 l0_3.length c0_3)] 27 (0, 0))) ∧ Aside0 (Below w.heap.size w w'))
       case atStart => exact ⟨(0), (by first | rfl | (simp; done) | (simp [*]; done)), H', ⟨Nat.le_refl _⟩, ⟨by (with_reducible repeat first | refine blk_drewN ?_ _ | refine blk_drew ?_ | refine blk_alloc ?_ _); exact BK250.out⟩, ⟨by repeat (first | (with_reducible first | exact HB.out | apply below_alloc | apply pw_below_drewN | apply below_drew1 | refine below_set ?_ GE250.out) | exact HB.out)⟩⟩
       case round =>
        clear H'
        try clear c1
        try clear c2
        try clear p2
        try clear c3
        try clear c4
        try clear c6
        try clear c10
        try clear c11
        try clear c11b0
        try clear c11b1
        try clear c12
        try clear c13
        try clear c13b0
        try clear c14
        try clear c16
        try clear c18
        try clear c19
        try clear c28
        try clear c29
        try clear c36
        try clear c37
        try clear c38
        try clear c38b0
        try clear c38b1
        try clear c40
        try clear c41
        try clear c41b0
        try clear c41b1
        try clear c43
        try clear c68
        try clear hcz12_0
        try clear hcz12_1
        try clear hcz12_2
        try clear hcz12_3
        try clear hcz14_0
        try clear hcz14_1
        try clear hcz14_2
        try clear hcz14_3
        try clear hcz15_0
        try clear hcz15_1
        try clear hcz15_2
        try clear hcz15_3
        try clear hcz24_0
        try clear hcz24_1
        try clear hcz24_2
        try clear hcz24_3
        try clear hcz26_0
        try clear hcz26_1
        try clear hcz26_2
        try clear hcz26_3
        try clear hcz28_0
        try clear hcz28_1
        try clear hcz28_2
        try clear hcz28_3
        try clear hcz30_0
        try clear hcz30_1
        try clear hcz30_2
        try clear hcz30_3
        try clear hcz32_0
        try clear hcz32_1
        try clear hcz32_2
        try clear hcz32_3
        try clear hcz34_0
        try clear hcz34_1
        try clear hcz34_2
        try clear hcz34_3
        try clear hfz12_0
        try clear hfz12_1
        try clear hfz12_2
        try clear hfz12_3
        try clear hfz14_0
        try clear hfz14_1
        try clear hfz14_2
        try clear hfz14_3
        try clear hfz15_0
        try clear hfz15_1
        try clear hfz15_2
        try clear hfz15_3
        try clear hfz24_0
        try clear hfz24_1
        try clear hfz24_2
        try clear hfz24_3
        try clear hfz26_0
        try clear hfz26_1
        try clear hfz26_2
        try clear hfz26_3
        try clear hfz28_0
        try clear hfz28_1
        try clear hfz28_2
        try clear hfz28_3
        try clear hfz30_0
        try clear hfz30_1
        try clear hfz30_2
        try clear hfz30_3
        try clear hfz32_0
        try clear hfz32_1
        try clear hfz32_2
        try clear hfz32_3
        try clear hfz34_0
        try clear hfz34_1
        try clear hfz34_2
        try clear hfz34_3
        try clear p2
        obtain ⟨x24_3, rfl, HA, HK3, BK250, HB⟩ := hrel
        cases gk with
        | zero => exact absurd HA.out (by simp [racewaylaw6_ResidualTells.l0])
        | succ k3 =>
         (have H := HA.out);(clear HA);(simp only [racewaylaw6_ResidualTells.l0] at H)
         by_cases c69 : x24_3 < (l2.length : Int)
         ·(rw [if_pos c69] at H);(have c69b0 : decide (x24_3 < (l2.length : Int)) = true := decide_eq_true c69);(clear c69)
          by_cases c70 : 0 ≤ x24_3
          ·(rw [if_pos c70] at H);(have c70b0 : decide (0 ≤ x24_3) = true := decide_eq_true c70);(clear c70);(replace H := Option.bind_eq_some_iff.mp H);(obtain ⟨⟨t280, t281⟩, A710, H⟩ := H);(replace H : ((racewayref6_Ends.f k3 a0_0 a0_1 a0_2 l0_3 (rd l2 x24_3)).bind fun bt283 => (if t280 = bt283.1 then (if t281 = bt283.2 then ((residual_From.f k3 a0_0 a0_1 a0_2 l0_3 t280).bind fun t285 => ((racewayref6_From.f k3 a0_0 a0_1 a0_2 l0_3 t280).bind fun t288 => ((racewaylaw6_same.f k3 t285 t288).bind fun t291 => (if t291 = true then (racewaylaw6_ResidualTells.l0 k3 l2 (wrap64 (x24_3 + 1)) a0_0 a0_1 a0_2 l0_3) else (some false))))) else (some false)) else (some false))) = some r := H);(have A71 := Aside0.mk A710);(clear A710);(replace H := Option.bind_eq_some_iff.mp H);(obtain ⟨⟨t283, t284⟩, A720, H⟩ := H);(replace H : (if t280 = t283 then (if t281 = t284 then ((residual_From.f k3 a0_0 a0_1 a0_2 l0_3 t280).bind fun t285 => ((racewayref6_From.f k3 a0_0 a0_1 a0_2 l0_3 t280).bind fun t288 => ((racewaylaw6_same.f k3 t285 t288).bind fun t291 => (if t291 = true then (racewaylaw6_ResidualTells.l0 k3 l2 (wrap64 (x24_3 + 1)) a0_0 a0_1 a0_2 l0_3) else (some false))))) else (some false)) else (some false)) = some r := H);(have A72 := Aside0.mk A720);(clear A720)
           by_cases c73 : t280 = t283
           ·(rw [if_pos c73] at H);(have c73b0 : (t280 == t283) = true := beq_iff_eq.mpr c73);(have c73b1 : (t280 != t283) = false := bne_eq_false_iff_eq.mpr c73);(clear c73)
            by_cases c74 : t281 = t284
            ·(rw [if_pos c74] at H);(have c74b0 : (t281 == t284) = true := beq_iff_eq.mpr c74);(have c74b1 : (t281 != t284) = false := bne_eq_false_iff_eq.mpr c74);(clear c74);(replace H := Option.bind_eq_some_iff.mp H);(obtain ⟨t285, A750, H⟩ := H);(replace H : ((racewayref6_From.f k3 a0_0 a0_1 a0_2 l0_3 t280).bind fun t288 => ((racewaylaw6_same.f k3 t285 t288).bind fun t291 => (if t291 = true then (racewaylaw6_ResidualTells.l0 k3 l2 (wrap64 (x24_3 + 1)) a0_0 a0_1 a0_2 l0_3) else (some false)))) = some r := H);(have A75 := Aside0.mk A750);(clear A750);(replace H := Option.bind_eq_some_iff.mp H);(obtain ⟨t288, A760, H⟩ := H);(replace H : ((racewaylaw6_same.f k3 t285 t288).bind fun t291 => (if t291 = true then (racewaylaw6_ResidualTells.l0 k3 l2 (wrap64 (x24_3 + 1)) a0_0 a0_1 a0_2 l0_3) else (some false))) = some r := H);(have A76 := Aside0.mk A760);(clear A760);(replace H := Option.bind_eq_some_iff.mp H);(obtain ⟨t291, A770, H⟩ := H);(replace H : (if t291 = true then (racewaylaw6_ResidualTells.l0 k3 l2 (wrap64 (x24_3 + 1)) a0_0 a0_1 a0_2 l0_3) else (some false)) = some r := H);(have A77 := Aside0.mk A770);(clear A770)
             by_cases c78 : t291 = true
             ·(subst c78);(have H1 : (racewaylaw6_ResidualTells.l0 k3 l2 (wrap64 (x24_3 + 1)) a0_0 a0_1 a0_2 l0_3) = some r := by rw [if_pos rfl] at H; exact H);(clear H);(have H := H1);(clear H1)
              as_aux_lemma =>
               (have H' := Aside0.mk H);(clear H)
               try go_wp2
               (have n0_ := Aside0.mk (blk_drew BK250.out));(have n1_ := Aside0.mk (below_drew1 HB.out));(clear BK250);(clear HB);(have BK250 := n0_);(have HB := n1_);(clear n0_ n1_);(have p279 : 0 ≤ (x24_3 : Int) := of_decide_eq_true (by first | (with_reducible assumption) | assumption));(have q279 : x24_3 < (l2.length : Int) := of_decide_eq_true (by first | (with_reducible assumption) | assumption));(obtain ⟨ad279, e279, hx279_0⟩ := Kd.at_int HR2.out x24_3 p279 q279);(have hw279_0 := hx279_0);(cases e279);(replace hx279_0 := (HB.out.cell (World.block_lt_of_cell? w _ hx279_0)).trans hx279_0);(replace p279 := eq_true p279);(replace q279 := eq_true q279);(refine start_ (n := 11) (S := fun w' => w'.cell? ⟨gb250, 0, none⟩ = some (.int .i64 a0_0) ∧ w'.cell? ⟨gb250, 1, none⟩ = some (.int .i64 a0_1) ∧ w'.cell? ⟨gb250, 2, none⟩ = some (.int .i64 a0_2) ∧ w'.cell? ⟨gb250, 3, none⟩ = some (.slice A0_3 l0_3.length c0_3) ∧ w'.cell? (ad279.add (x24_3).toNat) = some (.int .i64 (rd l2 x24_3))) (ds := []) #[false, false, false, false, false, false, false, false, false, false, false] (by kernel_rfl) rfl rfl ⟨(blk_cell BK250.out 0).trans rfl, (blk_cell BK250.out 1).trans rfl, (blk_cell BK250.out 2).trans rfl, (blk_cell BK250.out 3).trans rfl, ((HB.out.cell (World.block_lt_of_cell? w _ hw279_0)).trans hw279_0)⟩ (fun hHeld => ?_); refine with_tabW racewaylaw6_ResidualTells.tab15 racewaylaw6_ResidualTells.bits15 (fun HT_ HW_ => ?_));(generalize wr.drew = w79 at BK250 HB hx279_0 hHeld ⊢);(refine pure_ (i := 1) (N := some 130) (v := ?_) (a' := ?_) #[false, true, false, false, false, false, false, false, false, false, false] rfl rfl (any_of HT_.out (by kernel_rfl)) (fun _ _ _ h => h) (Or.inl ⟨by rfl, ?_⟩) ?_ ?_)
               rotate_left
               ·intro w'
                go_simp
                with_reducible rfl
               rotate_left
               ·simp only [Act.put, List.setIfInBounds_toArray, List.set_cons_zero, List.set_cons_succ, i64_w, i32_w]
                rfl
               refine pure_ (i := 2) (N := some 131) (v := ?_) (a' := ?_) #[false, true, true, false, false, false, false, false, false, false, false] rfl rfl (any_of HT_.out (by kernel_rfl)) (fun _ _ _ h => h) (Or.inl ⟨by rfl, ?_⟩) ?_ ?_
               rotate_left
               ·intro w'
                go_simp
                with_reducible rfl
               rotate_left
               ·simp only [Act.put, List.setIfInBounds_toArray, List.set_cons_zero, List.set_cons_succ, i64_w, i32_w]
                rfl
               refine pure_ (i := 3) (N := some 132) (v := ?_) (a' := ?_) #[false, true, true, true, false, false, false, false, false, false, false] rfl rfl (any_of HT_.out (by kernel_rfl)) (fun _ _ _ h => h) (Or.inl ⟨by rfl, ?_⟩) ?_ ?_
               rotate_left
               ·intro w'
                go_simp
                with_reducible rfl
               rotate_left
               ·simp only [Act.put, List.setIfInBounds_toArray, List.set_cons_zero, List.set_cons_succ, i64_w, i32_w]
                rfl
               refine take_ (i := 0) (N := some 129) (v := ?_) (a' := ?_) #[true, true, true, true, false, false, false, false, false, false, false] rfl rfl (take_ofW HT_.out HW_.out (by kernel_rfl)) (fun _ _ _ h => h) (Or.inl ⟨by rfl, ?_⟩) hHeld ?_ ?_
               rotate_left
               ·rintro w' ⟨s0, s1, s2, s3, s4⟩
                go_simp
                with_reducible rfl
               rotate_left
               ·simp only [Act.put, List.setIfInBounds_toArray, List.set_cons_zero, List.set_cons_succ, i64_w, i32_w]
                rfl
               refine take_ (i := 4) (N := some 133) (v := ?_) (a' := ?_) #[true, true, true, true, true, false, false, false, false, false, false] rfl rfl (take_ofW HT_.out HW_.out (by kernel_rfl)) (fun _ _ _ h => h) (Or.inl ⟨by rfl, ?_⟩) hHeld ?_ ?_
               rotate_left
               ·rintro w' ⟨s0, s1, s2, s3, s4⟩
                go_simp
                with_reducible rfl
               rotate_left
               ·simp only [Act.put, List.setIfInBounds_toArray, List.set_cons_zero, List.set_cons_succ, i64_w, i32_w]
                rfl
               (refine one_ (i := 5) (N := some 134) #[true, true, true, true, true, true, false, false, false, false, false] rfl rfl (one_of HT_.out (by kernel_rfl)) (by decide) (fun K hK => ?_));(refine goes_ Try.func21 (by kernel_rfl) rfl #[.agg #[.int .i64 a0_0, .int .i64 a0_1, .int .i64 a0_2, .slice A0_3 l0_3.length c0_3], .int .i64 (rd l2 x24_3)] (by rfl) rfl rfl (by (try simp only [List.map_toArray, List.map_cons, List.map_nil]); first | done | rfl | (simp only [List.length_drop, List.length_take]; rfl)) ?_)
               with_reducible refine (residual_Ends.calls k3 a0_0 a0_1 a0_2 _ _ l0_3 (rd l2 x24_3) t280 t281 _ ?side1 ?side2 A71.out).mono ?_
               (case side1 => repeat (first | exact (Kd.C_below HR0_3.out HB.out) | (with_reducible refine Kd.C_alloc ?_ _) | (with_reducible refine Kd.C_drewN ?_ _) | (with_reducible refine Kd.C_drew ?_)))
               (case side2 => exact HC0_3.out)
               (rintro e w80 ⟨rfl, hb⟩);(refine ⟨_, rfl, ?_⟩);(have n0_ := Aside0.mk (blk_below (g := gb250) (o := .cells #[.int .i64 a0_0, .int .i64 a0_1, .int .i64 a0_2, .slice A0_3 l0_3.length c0_3] 27 (0, 0)) (by (with_reducible repeat first | refine blk_drewN ?_ _ | refine blk_drew ?_ | refine blk_alloc ?_ _); exact BK250.out) hb));(have n1_ := Aside0.mk (below_step (by repeat (first | (with_reducible first | exact HB.out | apply below_alloc | apply pw_below_drewN | apply below_drew1 | refine below_set ?_ GE250.out) | exact HB.out)) hb));(clear BK250);(clear HB);(have BK250 := n0_);(have HB := n1_);(clear n0_ n1_);((try clear hb));((try clear hb2));((try clear hk));((try clear hi));(refine hK.out _ _ ⟨(blk_cell BK250.out 0).trans rfl, (blk_cell BK250.out 1).trans rfl, (blk_cell BK250.out 2).trans rfl, (blk_cell BK250.out 3).trans rfl, ((HB.out.cell (World.block_lt_of_cell? w _ hw279_0)).trans hw279_0)⟩ (fun hHeld => ?_));(clear hK K);(refine norm_ (a' := ?_) ?_ ?_)
               rotate_left
               ·show Act.put _ (some 134) _ = _
                simp only [Act.put, List.setIfInBounds_toArray, List.set_cons_zero, List.set_cons_succ, i64_w, i32_w]
                rfl
               refine pure_ (i := 6) (N := some 128) (v := ?_) (a' := ?_) #[true, true, true, true, true, true, true, false, false, false, false] rfl rfl (any_of HT_.out (by kernel_rfl)) (fun _ _ _ h => h) (Or.inl ⟨by rfl, ?_⟩) ?_ ?_
               rotate_left
               ·intro w'
                go_simp
                with_reducible rfl
               rotate_left
               ·simp only [Act.put, List.setIfInBounds_toArray, List.set_cons_zero, List.set_cons_succ, i64_w, i32_w]
                rfl
               refine pure_ (i := 7) (N := some 135) (v := ?_) (a' := ?_) #[true, true, true, true, true, true, true, true, false, false, false] rfl rfl (any_of HT_.out (by kernel_rfl)) (fun _ _ _ h => h) (Or.inl ⟨by rfl, ?_⟩) ?_ ?_
               rotate_left
               ·intro w'
                go_simp
                with_reducible rfl
               rotate_left
               ·simp only [Act.put, List.setIfInBounds_toArray, List.set_cons_zero, List.set_cons_succ, i64_w, i32_w]
                rfl
               refine pure_ (i := 8) (N := some 136) (v := ?_) (a' := ?_) #[true, true, true, true, true, true, true, true, true, false, false] rfl rfl (any_of HT_.out (by kernel_rfl)) (fun _ _ _ h => h) (Or.inl ⟨by rfl, ?_⟩) ?_ ?_
               rotate_left
               ·intro w'
                go_simp
                with_reducible rfl
               rotate_left
               ·simp only [Act.put, List.setIfInBounds_toArray, List.set_cons_zero, List.set_cons_succ, i64_w, i32_w]
                rfl
               refine pure_ (i := 9) (N := some 25) (v := ?_) (a' := ?_) #[true, true, true, true, true, true, true, true, true, true, false] rfl rfl (any_of HT_.out (by kernel_rfl)) (fun _ _ _ h => h) (Or.inl ⟨by rfl, ?_⟩) ?_ ?_
               rotate_left
               ·intro w'
                go_simp
                with_reducible rfl
               rotate_left
               ·simp only [Act.put, List.setIfInBounds_toArray, List.set_cons_zero, List.set_cons_succ, i64_w, i32_w]
                rfl
               refine pure_ (i := 10) (N := some 26) (v := ?_) (a' := ?_) #[true, true, true, true, true, true, true, true, true, true, true] rfl rfl (any_of HT_.out (by kernel_rfl)) (fun _ _ _ h => h) (Or.inl ⟨by rfl, ?_⟩) ?_ ?_
               rotate_left
               ·intro w'
                go_simp
                with_reducible rfl
               rotate_left
               ·simp only [Act.put, List.setIfInBounds_toArray, List.set_cons_zero, List.set_cons_succ, i64_w, i32_w]
                rfl
               refine done_ (done_of HT_.out (by kernel_rfl)) ?_
               try go_wp2
               (have n0_ := Aside0.mk (blk_drew BK250.out));(have n1_ := Aside0.mk (below_drew1 HB.out));(clear BK250);(clear HB);(have BK250 := n0_);(have HB := n1_);(clear n0_ n1_);(have p282 : 0 ≤ (x24_3 : Int) := of_decide_eq_true (by first | (with_reducible assumption) | assumption));(have q282 : x24_3 < (l2.length : Int) := of_decide_eq_true (by first | (with_reducible assumption) | assumption));(obtain ⟨ad282, e282, hx282_0⟩ := Kd.at_int HR2.out x24_3 p282 q282);(have hw282_0 := hx282_0);(obtain rfl : ad279 = ad282 := (by injection e282));(replace hx282_0 := (HB.out.cell (World.block_lt_of_cell? w _ hx282_0)).trans hx282_0);(replace p282 := eq_true p282);(replace q282 := eq_true q282);(refine start_ (n := 11) (S := fun w' => w'.cell? ⟨gb250, 0, none⟩ = some (.int .i64 a0_0) ∧ w'.cell? ⟨gb250, 1, none⟩ = some (.int .i64 a0_1) ∧ w'.cell? ⟨gb250, 2, none⟩ = some (.int .i64 a0_2) ∧ w'.cell? ⟨gb250, 3, none⟩ = some (.slice A0_3 l0_3.length c0_3) ∧ w'.cell? (ad279.add (x24_3).toNat) = some (.int .i64 (rd l2 x24_3))) (ds := []) #[false, false, false, false, false, false, false, false, false, false, false] (by kernel_rfl) rfl rfl ⟨(blk_cell BK250.out 0).trans rfl, (blk_cell BK250.out 1).trans rfl, (blk_cell BK250.out 2).trans rfl, (blk_cell BK250.out 3).trans rfl, ((HB.out.cell (World.block_lt_of_cell? w _ hw282_0)).trans hw282_0)⟩ (fun hHeld => ?_); refine with_tabW racewaylaw6_ResidualTells.tab16 racewaylaw6_ResidualTells.bits16 (fun HT_ HW_ => ?_));(generalize w80.drew = w81 at BK250 HB hx282_0 hHeld ⊢);(refine pure_ (i := 1) (N := some 139) (v := ?_) (a' := ?_) #[false, true, false, false, false, false, false, false, false, false, false] rfl rfl (any_of HT_.out (by kernel_rfl)) (fun _ _ _ h => h) (Or.inl ⟨by rfl, ?_⟩) ?_ ?_)
               rotate_left
               ·intro w'
                go_simp
                with_reducible rfl
               rotate_left
               ·simp only [Act.put, List.setIfInBounds_toArray, List.set_cons_zero, List.set_cons_succ, i64_w, i32_w]
                rfl
               refine pure_ (i := 2) (N := some 140) (v := ?_) (a' := ?_) #[false, true, true, false, false, false, false, false, false, false, false] rfl rfl (any_of HT_.out (by kernel_rfl)) (fun _ _ _ h => h) (Or.inl ⟨by rfl, ?_⟩) ?_ ?_
               rotate_left
               ·intro w'
                go_simp
                with_reducible rfl
               rotate_left
               ·simp only [Act.put, List.setIfInBounds_toArray, List.set_cons_zero, List.set_cons_succ, i64_w, i32_w]
                rfl
               refine pure_ (i := 3) (N := some 141) (v := ?_) (a' := ?_) #[false, true, true, true, false, false, false, false, false, false, false] rfl rfl (any_of HT_.out (by kernel_rfl)) (fun _ _ _ h => h) (Or.inl ⟨by rfl, ?_⟩) ?_ ?_
               rotate_left
               ·intro w'
                go_simp
                with_reducible rfl
               rotate_left
               ·simp only [Act.put, List.setIfInBounds_toArray, List.set_cons_zero, List.set_cons_succ, i64_w, i32_w]
                rfl
               refine take_ (i := 0) (N := some 138) (v := ?_) (a' := ?_) #[true, true, true, true, false, false, false, false, false, false, false] rfl rfl (take_ofW HT_.out HW_.out (by kernel_rfl)) (fun _ _ _ h => h) (Or.inl ⟨by rfl, ?_⟩) hHeld ?_ ?_
               rotate_left
               ·rintro w' ⟨s0, s1, s2, s3, s4⟩
                go_simp
                with_reducible rfl
               rotate_left
               ·simp only [Act.put, List.setIfInBounds_toArray, List.set_cons_zero, List.set_cons_succ, i64_w, i32_w]
                rfl
               refine take_ (i := 4) (N := some 142) (v := ?_) (a' := ?_) #[true, true, true, true, true, false, false, false, false, false, false] rfl rfl (take_ofW HT_.out HW_.out (by kernel_rfl)) (fun _ _ _ h => h) (Or.inl ⟨by rfl, ?_⟩) hHeld ?_ ?_
               rotate_left
               ·rintro w' ⟨s0, s1, s2, s3, s4⟩
                go_simp
                with_reducible rfl
               rotate_left
               ·simp only [Act.put, List.setIfInBounds_toArray, List.set_cons_zero, List.set_cons_succ, i64_w, i32_w]
                rfl
               (refine one_ (i := 5) (N := some 143) #[true, true, true, true, true, true, false, false, false, false, false] rfl rfl (one_of HT_.out (by kernel_rfl)) (by decide) (fun K hK => ?_));(refine goes_ Try.func40 (by kernel_rfl) rfl #[.agg #[.int .i64 a0_0, .int .i64 a0_1, .int .i64 a0_2, .slice A0_3 l0_3.length c0_3], .int .i64 (rd l2 x24_3)] (by rfl) rfl rfl (by (try simp only [List.map_toArray, List.map_cons, List.map_nil]); first | done | rfl | (simp only [List.length_drop, List.length_take]; rfl)) ?_)
               with_reducible refine (racewayref6_Ends.calls k3 a0_0 a0_1 a0_2 _ _ l0_3 (rd l2 x24_3) t283 t284 _ ?side1 ?side2 A72.out).mono ?_
               (case side1 => repeat (first | exact (Kd.C_below HR0_3.out HB.out) | (with_reducible refine Kd.C_alloc ?_ _) | (with_reducible refine Kd.C_drewN ?_ _) | (with_reducible refine Kd.C_drew ?_)))
               (case side2 => exact HC0_3.out)
               (rintro e w82 ⟨rfl, hb⟩);(refine ⟨_, rfl, ?_⟩);(have n0_ := Aside0.mk (blk_below (g := gb250) (o := .cells #[.int .i64 a0_0, .int .i64 a0_1, .int .i64 a0_2, .slice A0_3 l0_3.length c0_3] 27 (0, 0)) (by (with_reducible repeat first | refine blk_drewN ?_ _ | refine blk_drew ?_ | refine blk_alloc ?_ _); exact BK250.out) hb));(have n1_ := Aside0.mk (below_step (by repeat (first | (with_reducible first | exact HB.out | apply below_alloc | apply pw_below_drewN | apply below_drew1 | refine below_set ?_ GE250.out) | exact HB.out)) hb));(clear BK250);(clear HB);(have BK250 := n0_);(have HB := n1_);(clear n0_ n1_);((try clear hb));((try clear hb2));((try clear hk));((try clear hi));(refine hK.out _ _ ⟨(blk_cell BK250.out 0).trans rfl, (blk_cell BK250.out 1).trans rfl, (blk_cell BK250.out 2).trans rfl, (blk_cell BK250.out 3).trans rfl, ((HB.out.cell (World.block_lt_of_cell? w _ hw282_0)).trans hw282_0)⟩ (fun hHeld => ?_));(clear hK K);(refine norm_ (a' := ?_) ?_ ?_)
               rotate_left
               ·show Act.put _ (some 143) _ = _
                simp only [Act.put, List.setIfInBounds_toArray, List.set_cons_zero, List.set_cons_succ, i64_w, i32_w]
                rfl
               refine pure_ (i := 6) (N := some 137) (v := ?_) (a' := ?_) #[true, true, true, true, true, true, true, false, false, false, false] rfl rfl (any_of HT_.out (by kernel_rfl)) (fun _ _ _ h => h) (Or.inl ⟨by rfl, ?_⟩) ?_ ?_
               rotate_left
               ·intro w'
                go_simp
                with_reducible rfl
               rotate_left
               ·simp only [Act.put, List.setIfInBounds_toArray, List.set_cons_zero, List.set_cons_succ, i64_w, i32_w]
                rfl
               refine pure_ (i := 7) (N := some 144) (v := ?_) (a' := ?_) #[true, true, true, true, true, true, true, true, false, false, false] rfl rfl (any_of HT_.out (by kernel_rfl)) (fun _ _ _ h => h) (Or.inl ⟨by rfl, ?_⟩) ?_ ?_
               rotate_left
               ·intro w'
                go_simp
                with_reducible rfl
               rotate_left
               ·simp only [Act.put, List.setIfInBounds_toArray, List.set_cons_zero, List.set_cons_succ, i64_w, i32_w]
                rfl
               refine pure_ (i := 8) (N := some 145) (v := ?_) (a' := ?_) #[true, true, true, true, true, true, true, true, true, false, false] rfl rfl (any_of HT_.out (by kernel_rfl)) (fun _ _ _ h => h) (Or.inl ⟨by rfl, ?_⟩) ?_ ?_
               rotate_left
               ·intro w'
                go_simp
                with_reducible rfl
               rotate_left
               ·simp only [Act.put, List.setIfInBounds_toArray, List.set_cons_zero, List.set_cons_succ, i64_w, i32_w]
                rfl
               refine pure_ (i := 9) (N := some 27) (v := ?_) (a' := ?_) #[true, true, true, true, true, true, true, true, true, true, false] rfl rfl (any_of HT_.out (by kernel_rfl)) (fun _ _ _ h => h) (Or.inl ⟨by rfl, ?_⟩) ?_ ?_
               rotate_left
               ·intro w'
                go_simp
                with_reducible rfl
               rotate_left
               ·simp only [Act.put, List.setIfInBounds_toArray, List.set_cons_zero, List.set_cons_succ, i64_w, i32_w]
                rfl
               refine pure_ (i := 10) (N := some 28) (v := ?_) (a' := ?_) #[true, true, true, true, true, true, true, true, true, true, true] rfl rfl (any_of HT_.out (by kernel_rfl)) (fun _ _ _ h => h) (Or.inl ⟨by rfl, ?_⟩) ?_ ?_
               rotate_left
               ·intro w'
                go_simp
                with_reducible rfl
               rotate_left
               ·simp only [Act.put, List.setIfInBounds_toArray, List.set_cons_zero, List.set_cons_succ, i64_w, i32_w]
                rfl
               refine done_ (done_of HT_.out (by kernel_rfl)) ?_
               try go_wp2
               (have n0_ := Aside0.mk (blk_drew BK250.out));(have n1_ := Aside0.mk (below_drew1 HB.out));(clear BK250);(clear HB);(have BK250 := n0_);(have HB := n1_);(clear n0_ n1_);(refine start_ (n := 18) (S := fun w' => w'.cell? ⟨gb250, 0, none⟩ = some (.int .i64 a0_0) ∧ w'.cell? ⟨gb250, 1, none⟩ = some (.int .i64 a0_1) ∧ w'.cell? ⟨gb250, 2, none⟩ = some (.int .i64 a0_2) ∧ w'.cell? ⟨gb250, 3, none⟩ = some (.slice A0_3 l0_3.length c0_3)) (ds := []) #[false, false, false, false, false, false, false, false, false, false, false, false, false, false, false, false, false, false] (by kernel_rfl) rfl rfl ⟨(blk_cell BK250.out 0).trans rfl, (blk_cell BK250.out 1).trans rfl, (blk_cell BK250.out 2).trans rfl, (blk_cell BK250.out 3).trans rfl⟩ (fun hHeld => ?_); refine with_tabW racewaylaw6_ResidualTells.tab17 racewaylaw6_ResidualTells.bits17 (fun HT_ HW_ => ?_));(generalize w82.drew = w83 at BK250 HB hHeld ⊢);(refine pure_ (i := 0) (N := some 146) (v := ?_) (a' := ?_) #[true, false, false, false, false, false, false, false, false, false, false, false, false, false, false, false, false, false] rfl rfl (any_of HT_.out (by kernel_rfl)) (fun _ _ _ h => h) (Or.inl ⟨by rfl, ?_⟩) ?_ ?_)
               rotate_left
               ·intro w'
                go_simp
                with_reducible rfl
               rotate_left
               ·simp only [Act.put, List.setIfInBounds_toArray, List.set_cons_zero, List.set_cons_succ, i64_w, i32_w]
                rfl
               refine pure_ (i := 1) (N := some 147) (v := ?_) (a' := ?_) #[true, true, false, false, false, false, false, false, false, false, false, false, false, false, false, false, false, false] rfl rfl (any_of HT_.out (by kernel_rfl)) (fun _ _ _ h => h) (Or.inl ⟨by rfl, ?_⟩) ?_ ?_
               rotate_left
               ·intro w'
                go_simp
                with_reducible rfl
               rotate_left
               ·simp only [Act.put, List.setIfInBounds_toArray, List.set_cons_zero, List.set_cons_succ, i64_w, i32_w]
                rfl
               refine pure_ (i := 2) (N := some 148) (v := ?_) (a' := ?_) #[true, true, true, false, false, false, false, false, false, false, false, false, false, false, false, false, false, false] rfl rfl (any_of HT_.out (by kernel_rfl)) (fun _ _ _ h => h) (Or.inl ⟨by rfl, ?_⟩) ?_ ?_
               rotate_left
               ·intro w'
                go_simp
                with_reducible rfl
               rotate_left
               ·simp only [Act.put, List.setIfInBounds_toArray, List.set_cons_zero, List.set_cons_succ, i64_w, i32_w]
                rfl
               refine pure_ (i := 3) (N := some 149) (v := ?_) (a' := ?_) #[true, true, true, true, false, false, false, false, false, false, false, false, false, false, false, false, false, false] rfl rfl (any_of HT_.out (by kernel_rfl)) (fun _ _ _ h => h) (Or.inl ⟨by rfl, ?_⟩) ?_ ?_
               rotate_left
               ·intro w'
                go_simp
                with_reducible rfl
               rotate_left
               ·simp only [Act.put, List.setIfInBounds_toArray, List.set_cons_zero, List.set_cons_succ, i64_w, i32_w]
                rfl
               refine pure_ (i := 4) (N := some 150) (v := ?_) (a' := ?_) #[true, true, true, true, true, false, false, false, false, false, false, false, false, false, false, false, false, false] rfl rfl (any_of HT_.out (by kernel_rfl)) (fun _ _ _ h => h) (Or.inl ⟨by rfl, ?_⟩) ?_ ?_
               rotate_left
               ·intro w'
                go_simp
                with_reducible rfl
               rotate_left
               ·simp only [Act.put, List.setIfInBounds_toArray, List.set_cons_zero, List.set_cons_succ, i64_w, i32_w]
                rfl
               refine pure_ (i := 5) (N := some 151) (v := ?_) (a' := ?_) #[true, true, true, true, true, true, false, false, false, false, false, false, false, false, false, false, false, false] rfl rfl (any_of HT_.out (by kernel_rfl)) (fun _ _ _ h => h) (Or.inl ⟨by rfl, ?_⟩) ?_ ?_
               rotate_left
               ·intro w'
                go_simp
                with_reducible rfl
               rotate_left
               ·simp only [Act.put, List.setIfInBounds_toArray, List.set_cons_zero, List.set_cons_succ, i64_w, i32_w]
                rfl
               refine pure_ (i := 6) (N := some 152) (v := ?_) (a' := ?_) #[true, true, true, true, true, true, true, false, false, false, false, false, false, false, false, false, false, false] rfl rfl (any_of HT_.out (by kernel_rfl)) (fun _ _ _ h => h) (Or.inl ⟨by rfl, ?_⟩) ?_ ?_
               rotate_left
               ·intro w'
                go_simp
                with_reducible rfl
               rotate_left
               ·simp only [Act.put, List.setIfInBounds_toArray, List.set_cons_zero, List.set_cons_succ, i64_w, i32_w]
                rfl
               refine pure_ (i := 7) (N := some 153) (v := ?_) (a' := ?_) #[true, true, true, true, true, true, true, true, false, false, false, false, false, false, false, false, false, false] rfl rfl (any_of HT_.out (by kernel_rfl)) (fun _ _ _ h => h) (Or.inl ⟨by rfl, ?_⟩) ?_ ?_
               rotate_left
               ·intro w'
                go_simp
                with_reducible rfl
               rotate_left
               ·simp only [Act.put, List.setIfInBounds_toArray, List.set_cons_zero, List.set_cons_succ, i64_w, i32_w]
                rfl
               refine pure_ (i := 8) (N := some 154) (v := ?_) (a' := ?_) #[true, true, true, true, true, true, true, true, true, false, false, false, false, false, false, false, false, false] rfl rfl (any_of HT_.out (by kernel_rfl)) (fun _ _ _ h => h) (Or.inl ⟨by rfl, ?_⟩) ?_ ?_
               rotate_left
               ·intro w'
                go_simp
                with_reducible rfl
               rotate_left
               ·simp only [Act.put, List.setIfInBounds_toArray, List.set_cons_zero, List.set_cons_succ, i64_w, i32_w]
                rfl
               refine pure_ (i := 10) (N := some 156) (v := ?_) (a' := ?_) #[true, true, true, true, true, true, true, true, true, false, true, false, false, false, false, false, false, false] rfl rfl (any_of HT_.out (by kernel_rfl)) (fun _ _ _ h => h) (Or.inl ⟨by rfl, ?_⟩) ?_ ?_
               rotate_left
               ·intro w'
                go_simp
                with_reducible rfl
               rotate_left
               ·simp only [Act.put, List.setIfInBounds_toArray, List.set_cons_zero, List.set_cons_succ, i64_w, i32_w]
                rfl
               refine pure_ (i := 13) (N := some 159) (v := ?_) (a' := ?_) #[true, true, true, true, true, true, true, true, true, false, true, false, false, true, false, false, false, false] rfl rfl (any_of HT_.out (by kernel_rfl)) (fun _ _ _ h => h) (Or.inl ⟨by rfl, ?_⟩) ?_ ?_
               rotate_left
               ·intro w'
                go_simp
                with_reducible rfl
               rotate_left
               ·simp only [Act.put, List.setIfInBounds_toArray, List.set_cons_zero, List.set_cons_succ, i64_w, i32_w]
                rfl
               refine take_ (i := 9) (N := some 155) (v := ?_) (a' := ?_) #[true, true, true, true, true, true, true, true, true, true, true, false, false, true, false, false, false, false] rfl rfl (take_ofW HT_.out HW_.out (by kernel_rfl)) (fun _ _ _ h => h) (Or.inl ⟨by rfl, ?_⟩) hHeld ?_ ?_
               rotate_left
               ·rintro w' ⟨s0, s1, s2, s3⟩
                go_simp
                with_reducible rfl
               rotate_left
               ·simp only [Act.put, List.setIfInBounds_toArray, List.set_cons_zero, List.set_cons_succ, i64_w, i32_w]
                rfl
               refine take_ (i := 12) (N := some 158) (v := ?_) (a' := ?_) #[true, true, true, true, true, true, true, true, true, true, true, false, true, true, false, false, false, false] rfl rfl (take_ofW HT_.out HW_.out (by kernel_rfl)) (fun _ _ _ h => h) (Or.inl ⟨by rfl, ?_⟩) hHeld ?_ ?_
               rotate_left
               ·rintro w' ⟨s0, s1, s2, s3⟩
                go_simp
                with_reducible rfl
               rotate_left
               ·simp only [Act.put, List.setIfInBounds_toArray, List.set_cons_zero, List.set_cons_succ, i64_w, i32_w]
                rfl
               (refine one_ (i := 11) (N := some 157) #[true, true, true, true, true, true, true, true, true, true, true, true, true, true, false, false, false, false] rfl rfl (one_of HT_.out (by kernel_rfl)) (by decide) (fun K hK => ?_));(refine goes_ Try.func20 (by kernel_rfl) rfl #[.agg #[.int .i64 a0_0, .int .i64 a0_1, .int .i64 a0_2, .slice A0_3 l0_3.length c0_3], .int .i64 t280] (by rfl) rfl rfl (by (try simp only [List.map_toArray, List.map_cons, List.map_nil]); first | done | rfl | (simp only [List.length_drop, List.length_take]; rfl)) ?_)
               with_reducible refine (residual_From.calls k3 a0_0 a0_1 a0_2 _ _ l0_3 t280 t285 _ ?side1 ?side2 A75.out).mono ?_
               (case side1 => repeat (first | exact (Kd.C_below HR0_3.out HB.out) | (with_reducible refine Kd.C_alloc ?_ _) | (with_reducible refine Kd.C_drewN ?_ _) | (with_reducible refine Kd.C_drew ?_)))
               (case side2 => exact HC0_3.out)
               (rintro e w84 ⟨v286, rfl, ho0, hb⟩);(refine ⟨_, rfl, ?_⟩);(have n0_ := Aside0.mk (Kd.R_lower ho0 (below_size (by repeat (first | (with_reducible first | exact HB.out | apply below_alloc | apply pw_below_drewN | apply below_drew1 | refine below_set ?_ GE250.out) | exact HB.out)))));(have n1_ := Aside0.mk (blk_below (g := gb250) (o := .cells #[.int .i64 a0_0, .int .i64 a0_1, .int .i64 a0_2, .slice A0_3 l0_3.length c0_3] 27 (0, 0)) (by (with_reducible repeat first | refine blk_drewN ?_ _ | refine blk_drew ?_ | refine blk_alloc ?_ _); exact BK250.out) hb));(have n2_ := Aside0.mk (below_step (by repeat (first | (with_reducible first | exact HB.out | apply below_alloc | apply pw_below_drewN | apply below_drew1 | refine below_set ?_ GE250.out) | exact HB.out)) hb));(clear BK250);(clear HB);(have HO287 := n0_);(have BK250 := n1_);(have HB := n2_);(clear n0_ n1_ n2_);((try clear hb));((try clear hb2));((try clear hk));((try clear hi));((try clear ho0));(refine hK.out _ _ ⟨(blk_cell BK250.out 0).trans rfl, (blk_cell BK250.out 1).trans rfl, (blk_cell BK250.out 2).trans rfl, (blk_cell BK250.out 3).trans rfl⟩ (fun hHeld => ?_));(clear hK K);(refine norm_ (a' := ?_) ?_ ?_)
               rotate_left
               ·show Act.put _ (some 157) _ = _
                simp only [Act.put, List.setIfInBounds_toArray, List.set_cons_zero, List.set_cons_succ, i64_w, i32_w]
                rfl
               (refine one_ (i := 14) (N := some 160) #[true, true, true, true, true, true, true, true, true, true, true, true, true, true, true, false, false, false] rfl rfl (one_of HT_.out (by kernel_rfl)) (by decide) (fun K hK => ?_));(refine goes_ Try.func42 (by kernel_rfl) rfl #[.agg #[.int .i64 a0_0, .int .i64 a0_1, .int .i64 a0_2, .slice A0_3 l0_3.length c0_3], .int .i64 t280] (by rfl) rfl rfl (by (try simp only [List.map_toArray, List.map_cons, List.map_nil]); first | done | rfl | (simp only [List.length_drop, List.length_take]; rfl)) ?_)
               with_reducible refine (racewayref6_From.calls k3 a0_0 a0_1 a0_2 _ _ l0_3 t280 t288 _ ?side1 ?side2 A76.out).mono ?_
               (case side1 => repeat (first | exact (Kd.C_below HR0_3.out HB.out) | (with_reducible refine Kd.C_alloc ?_ _) | (with_reducible refine Kd.C_drewN ?_ _) | (with_reducible refine Kd.C_drew ?_)))
               (case side2 => exact HC0_3.out)
               (rintro e w85 ⟨v289, rfl, ho0, hb⟩);(refine ⟨_, rfl, ?_⟩);(have n0_ := Aside0.mk (Kd.R_elder' (by (with_reducible repeat first | apply Kd.R_alloc | apply Kd.R_drewN | apply Kd.R_drew); exact HO287.out) (Kd.R_base ho0) hb));(have n1_ := Aside0.mk (Kd.R_lower (Kd.R_new' ho0 (Kd.R_lt (by (with_reducible repeat first | apply Kd.R_alloc | apply Kd.R_drewN | apply Kd.R_drew); exact HO287.out))) (below_size (by repeat (first | (with_reducible first | exact HB.out | apply below_alloc | apply pw_below_drewN | apply below_drew1 | refine below_set ?_ GE250.out) | exact HB.out)))));(have n2_ := Aside0.mk (blk_below (g := gb250) (o := .cells #[.int .i64 a0_0, .int .i64 a0_1, .int .i64 a0_2, .slice A0_3 l0_3.length c0_3] 27 (0, 0)) (by (with_reducible repeat first | refine blk_drewN ?_ _ | refine blk_drew ?_ | refine blk_alloc ?_ _); exact BK250.out) hb));(have n3_ := Aside0.mk (below_step (by repeat (first | (with_reducible first | exact HB.out | apply below_alloc | apply pw_below_drewN | apply below_drew1 | refine below_set ?_ GE250.out) | exact HB.out)) hb));(clear HO287);(clear BK250);(clear HB);(have HO287 := n0_);(have HO290 := n1_);(have BK250 := n2_);(have HB := n3_);(clear n0_ n1_ n2_ n3_);((try clear hb));((try clear hb2));((try clear hk));((try clear hi));((try clear ho0));(obtain ⟨Ao86, co86, eo86⟩ := Kd.R_slice HO287.out);((first | subst eo86 | (injection eo86 with f1_ f2_ f3_; have f4_ := f1_.symm; have f5_ := f3_.symm; clear f1_ f2_ f3_; subst f4_; subst f5_)));(obtain ⟨Ao87, co87, eo87⟩ := Kd.R_slice HO290.out);((first | subst eo87 | (injection eo87 with f1_ f2_ f3_; have f4_ := f1_.symm; have f5_ := f3_.symm; clear f1_ f2_ f3_; subst f4_; subst f5_)));(refine hK.out _ _ ⟨(blk_cell BK250.out 0).trans rfl, (blk_cell BK250.out 1).trans rfl, (blk_cell BK250.out 2).trans rfl, (blk_cell BK250.out 3).trans rfl⟩ (fun hHeld => ?_));(clear hK K);(refine norm_ (a' := ?_) ?_ ?_)
               rotate_left
               ·show Act.put _ (some 160) _ = _
                simp only [Act.put, List.setIfInBounds_toArray, List.set_cons_zero, List.set_cons_succ, i64_w, i32_w]
                rfl
               (refine one_ (i := 15) (N := some 161) #[true, true, true, true, true, true, true, true, true, true, true, true, true, true, true, true, false, false] rfl rfl (one_of HT_.out (by kernel_rfl)) (by decide) (fun K hK => ?_));(refine goes_ Try.func41 (by kernel_rfl) rfl #[.slice Ao86 t285.length co86, .slice Ao87 t288.length co87] (by rfl) rfl rfl (by (try simp only [List.map_toArray, List.map_cons, List.map_nil]); first | done | rfl | (simp only [List.length_drop, List.length_take]; rfl)) ?_)
               with_reducible refine (racewaylaw6_same.calls k3 _ _ t285 _ _ t288 true _ ?side1 ?side2 ?side3 ?side4 A77.out).mono ?_
               (case side1 => repeat (first | exact (Kd.R_reads' HO287.out).2.2 | (with_reducible refine Kd.C_alloc ?_ _) | (with_reducible refine Kd.C_drewN ?_ _) | (with_reducible refine Kd.C_drew ?_)))
               (case side2 => exact (Kd.R_reads' HO287.out).2.1)
               (case side3 => repeat (first | exact (Kd.R_reads' HO290.out).2.2 | (with_reducible refine Kd.C_alloc ?_ _) | (with_reducible refine Kd.C_drewN ?_ _) | (with_reducible refine Kd.C_drew ?_)))
               (case side4 => exact (Kd.R_reads' HO290.out).2.1)
               (rintro e w' ⟨rfl, ⟨nd, rfl⟩⟩);(refine ⟨_, rfl, ?_⟩);(refine hK.out _ _ ⟨(blk_cell BK250.out 0).trans rfl, (blk_cell BK250.out 1).trans rfl, (blk_cell BK250.out 2).trans rfl, (blk_cell BK250.out 3).trans rfl⟩ (fun hHeld => ?_));(clear hK K);(refine norm_ (a' := ?_) ?_ ?_)
               rotate_left
               ·show Act.put _ (some 161) _ = _
                simp only [Act.put, List.setIfInBounds_toArray, List.set_cons_zero, List.set_cons_succ, i64_w, i32_w]
                rfl
               refine pure_ (i := 16) (N := some 162) (v := ?_) (a' := ?_) #[true, true, true, true, true, true, true, true, true, true, true, true, true, true, true, true, true, false] rfl rfl (any_of HT_.out (by kernel_rfl)) (fun _ _ _ h => h) (Or.inl ⟨by rfl, ?_⟩) ?_ ?_
               rotate_left
               ·intro w'
                go_simp
                with_reducible rfl
               rotate_left
               ·simp only [Act.put, List.setIfInBounds_toArray, List.set_cons_zero, List.set_cons_succ, i64_w, i32_w]
                rfl
               refine pure_ (i := 17) (N := some 163) (v := ?_) (a' := ?_) #[true, true, true, true, true, true, true, true, true, true, true, true, true, true, true, true, true, true] rfl rfl (any_of HT_.out (by kernel_rfl)) (fun _ _ _ h => h) (Or.inl ⟨by rfl, ?_⟩) ?_ ?_
               rotate_left
               ·intro w'
                go_simp
                with_reducible rfl
               rotate_left
               ·simp only [Act.put, List.setIfInBounds_toArray, List.set_cons_zero, List.set_cons_succ, i64_w, i32_w]
                rfl
               refine done_ (done_of HT_.out (by kernel_rfl)) ?_
               try go_wp2
               go_roundg k3
               case measure => have := HJ6.out; have := HJ22.out; have := HK3.out; omega
               case rel => exact ⟨(wrap64 (x24_3 + 1)), (by first | rfl | (simp; done) | (simp [*]; done)), H', ⟨by have := HJ6.out; have := HJ22.out; have := HK3.out; omega⟩, ⟨by (with_reducible repeat first | refine blk_drewN ?_ _ | refine blk_drew ?_ | refine blk_alloc ?_ _); exact BK250.out⟩, ⟨by repeat (first | (with_reducible first | exact HB.out | apply below_alloc | apply pw_below_drewN | apply below_drew1 | refine below_set ?_ GE250.out) | exact HB.out)⟩⟩
             ·(replace c78 := Bool.eq_false_iff.mpr c78);(subst c78);(have H1 : (some false) = some r := by rw [if_neg (show ¬ (false = true) by decide)] at H; exact H);(clear H);(have H := H1);(clear H1);(exact absurd ((Option.some.inj H).trans hrT_.out) (by simp))
            ·(rw [if_neg c74] at H);(have c74b0 : (t281 == t284) = false := beq_eq_false_iff_ne.mpr c74);(have c74b1 : (t281 != t284) = true := bne_iff_ne.mpr c74);(exact absurd ((Option.some.inj H).trans hrT_.out) (by simp))
           ·(rw [if_neg c73] at H);(have c73b0 : (t280 == t283) = false := beq_eq_false_iff_ne.mpr c73);(have c73b1 : (t280 != t283) = true := bne_iff_ne.mpr c73);(exact absurd ((Option.some.inj H).trans hrT_.out) (by simp))
          ·(rw [if_neg c70] at H);(exact absurd H (by simp))
         ·(rw [if_neg c69] at H);(have c69b0 : decide (x24_3 < (l2.length : Int)) = false := decide_eq_false c69);(clear c69)
          as_aux_lemma =>
           obtain rfl := Option.some.inj H
           go_wp2
           go_ret
           exact ⟨by first | rfl | (simp [errW_none, errW_some] <;> rfl) | (simp [*, errW_none, errW_some] <;> rfl), by repeat (first | (with_reducible first | exact HB.out | apply below_alloc | apply pw_below_drewN | apply below_drew1 | refine below_set ?_ GE250.out) | exact HB.out)⟩
/-- THE ONE PURE STATEMENT of racewaylaw6_ResidualTells. -/
def racewaylaw6_ResidualTells.Pure : Prop := ∀ (a0_0 : Int) (a0_1 : Int) (a0_2 : Int) (l0_3 : List (S49)) (l1 : List Int) (l2 : List Int) (a3 : Int) (a4 : Int), (Lit.int .i64 a0_0).wf = true → (Lit.int .i64 a0_1).wf = true → (Lit.int .i64 a0_2).wf = true → l0_3.length ≤ maxLen → (∀ x ∈ l0_3, (Lit.int .i64 x.f0).wf = true ∧ (Lit.int .i64 x.f1).wf = true ∧ (Lit.int .i64 x.f2).wf = true) → l1.length ≤ maxLen → l1.length * 8 ≤ 140737488351232 → (∀ x ∈ l1, (Lit.int .i64 x).wf = true) → l2.length ≤ maxLen → l2.length * 8 ≤ 140737488351232 → (∀ x ∈ l2, (Lit.int .i64 x).wf = true) → (Lit.int .i64 a3).wf = true → (Lit.int .i64 a4).wf = true → ∃ k, racewaylaw6_ResidualTells.f k a0_0 a0_1 a0_2 l0_3 l1 l2 a3 a4 = some true
theorem racewaylaw6_ResidualTells.walk (P : racewaylaw6_ResidualTells.Pure) (a0_0 : Int) (a0_1 : Int) (a0_2 : Int) (A0_3 : Option Addr) (c0_3 : Nat) (l0_3 : List (S49)) (A1 : Option Addr) (c1 : Nat) (l1 : List Int) (A2 : Option Addr) (c2 : Nat) (l2 : List Int) (a3 : Int) (a4 : Int) (w : World) (w0_0 : (Lit.int .i64 a0_0).wf = true) (w0_1 : (Lit.int .i64 a0_1).wf = true) (w0_2 : (Lit.int .i64 a0_2).wf = true) (hr0_3 : Kd.C k49 w A0_3 l0_3.length l0_3) (hc0_3 : l0_3.length ≤ c0_3) (hm0_3 : l0_3.length ≤ maxLen) (hw0_3 : (∀ x ∈ l0_3, (Lit.int .i64 x.f0).wf = true ∧ (Lit.int .i64 x.f1).wf = true ∧ (Lit.int .i64 x.f2).wf = true)) (hr1 : Kd.C (Kd.int .i64) w A1 l1.length l1) (hc1 : l1.length ≤ c1) (hm1 : l1.length ≤ maxLen) (y1 : l1.length * 8 ≤ 140737488351232) (hw1 : (∀ x ∈ l1, (Lit.int .i64 x).wf = true)) (hr2 : Kd.C (Kd.int .i64) w A2 l2.length l2) (hc2 : l2.length ≤ c2) (hm2 : l2.length ≤ maxLen) (y2 : l2.length * 8 ≤ 140737488351232) (hw2 : (∀ x ∈ l2, (Lit.int .i64 x).wf = true)) (w3 : (Lit.int .i64 a3).wf = true) (w4 : (Lit.int .i64 a4).wf = true) :
  Calls Try.prog 12 #[.agg #[.int .i64 a0_0, .int .i64 a0_1, .int .i64 a0_2, .slice A0_3 l0_3.length c0_3], .slice A1 l1.length c1, .slice A2 l2.length c2, .int .i64 a3, .int .i64 a4] w fun e w' => e = .returned (.bool true) ∧ Below w.heap.size w w' := by
 obtain ⟨k, h⟩ := P a0_0 a0_1 a0_2 l0_3 l1 l2 a3 a4 w0_0 w0_1 w0_2 hm0_3 hw0_3 hm1 y1 hw1 hm2 y2 hw2 w3 w4
 refine (racewaylaw6_ResidualTells.calls k a0_0 a0_1 a0_2 _ _ l0_3 _ _ l1 _ _ l2 a3 a4 true w hr0_3 hc0_3 hr1 hc1 hr2 hc2 h ⟨rfl⟩).mono ?_
 rintro e w' ⟨rfl, hd⟩
 exact ⟨rfl, hd⟩
end Go.Proofs.Ytbppeffcikphcaa.PResidualTells
