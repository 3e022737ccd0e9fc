/- For the law ResidualBack, for every input: printed by a program (wip/myprint), contracts by hand where it says MANUAL. -/
-- slim
import Derived.Test.YtbppeffcikphcaaPResidualBackx0
import Derived.Test.YtbppeffcikphcaaPResidualBackx6
import Derived.Test.YtbppeffcikphcaaPResidualBackx7
import Derived.Test.YtbppeffcikphcaaPResidualBackx8
import Derived.Test.YtbppeffcikphcaaPResidualBackx10
import Derived.Test.YtbppeffcikphcaaPResidualBackx12
namespace Go.Proofs.Ytbppeffcikphcaa.PResidualBack
open Go.RowKit Go.Proofs.YtbppeffcikphcaaW.PrintWords Go.Proofs.YtbppeffcikphcaaW.PrintLast Go.Proofs.YtbppeffcikphcaaW.PrintMore
attribute [local go_sem] max2_int min2_int max_two min_two max_three min_three max_four min_four
set_option linter.unusedVariables false
set_option linter.unusedSimpArgs false
/-! ### racewaylaw6_ResidualBack: function 11 -/
mutual
def racewaylaw6_ResidualBack.j0 : Nat → List Int → Bool → Bool → Option (Bool)
 | 0, _, _, _ => none
 | k + 1, x0, x3, x26 => if x26 = true then (some x3) else (if 0 ≤ (x0.length : Int) then (if ((x0.length : Int) : Int).toNat ≤ 35184372088832 then (racewaylaw6_ResidualBack.l0 k x0 (List.replicate ((x0.length : Int) : Int).toNat 0) (List.replicate ((x0.length : Int) : Int).toNat 0) 0 2 1 2 ([] : List (S49))) else (none)) else (none))
def racewaylaw6_ResidualBack.l0 : Nat → List Int → List Int → List Int → Int → Int → Int → Int → List (S49) → Option (Bool)
 | 0, _, _, _, _, _, _, _, _ => none
 | k + 1, x0, x5, x6, x7, x2159000, x2159001, x2159002, x2159003 => if x7 < (x0.length : Int) then (if 0 ≤ x7 then ((racewaylaw6_pick.f (rd x0 x7) 50).bind fun t2166 => (if x7 < (x6.length : Int) then ((some (x6.set (x7 : Int).toNat t2166 : List Int)).bind fun y2167 => (if x2159003.length < 5864062014805 then (racewaylaw6_ResidualBack.l0 k x0 x5 y2167 (wrap64 (x7 + 1)) x2159000 x2159001 x2159002 (x2159003 ++ [(⟨1, 2, rd y2167 x7⟩ : S49)])) else (none))) else (none))) else (none)) else ((residual_Room.f k x2159000 x2159001 x2159002 x2159003 x5).bind fun bt2172 => ((residual_Room.f k x2159000 x2159001 x2159002 x2159003 x6).bind fun bt2176 => ((residual_Reach.f k x2159000 x2159001 x2159002 x2159003 x6 1).bind fun bt2180 => (if bt2172.2 = 0 then (if bt2176.2 = 0 then (if bt2180.2 = 0 then (if 2 < (bt2180.1.length : Int) then (racewaylaw6_ResidualBack.j2 k x0 x5 x6 bt2172.1 bt2176.1 (rdOf false bt2180.1 2) x2159000 x2159001 x2159002 x2159003) else (none)) else (racewaylaw6_ResidualBack.j2 k x0 x5 x6 bt2172.1 bt2176.1 true x2159000 x2159001 x2159002 x2159003)) else (racewaylaw6_ResidualBack.j2 k x0 x5 x6 bt2172.1 bt2176.1 true x2159000 x2159001 x2159002 x2159003)) else (racewaylaw6_ResidualBack.j2 k x0 x5 x6 bt2172.1 bt2176.1 true x2159000 x2159001 x2159002 x2159003)))))
def racewaylaw6_ResidualBack.j2 : Nat → List Int → List Int → List Int → List Int → List Int → Bool → Int → Int → Int → List (S49) → Option (Bool)
 | 0, _, _, _, _, _, _, _, _, _, _ => none
 | k + 1, x0, x5, x6, x8, x10, x91, x2159000, x2159001, x2159002, x2159003 => if x91 = true then (some false) else (racewaylaw6_ResidualBack.l1 k x0 x5 x6 x8 x10 0 x2159000 x2159001 x2159002 x2159003)
def racewaylaw6_ResidualBack.l1 : Nat → List Int → List Int → List Int → List Int → List Int → Int → Int → Int → Int → List (S49) → Option (Bool)
 | 0, _, _, _, _, _, _, _, _, _, _ => none
 | k + 1, x0, x5, x6, x8, x10, x14, x2159000, x2159001, x2159002, x2159003 => if x14 < (x0.length : Int) then (if 0 ≤ (wrap64 (2 * x14)) then (if (wrap64 (2 * x14)) < (x8.length : Int) then (if 0 ≤ x14 then (if x14 < (x6.length : Int) then (if (rd x8 (wrap64 (2 * x14))) = (rd x6 x14) then (if 0 ≤ (wrap64 ((wrap64 (2 * x14)) + 1)) then (if (wrap64 ((wrap64 (2 * x14)) + 1)) < (x8.length : Int) then (if (rd x8 (wrap64 ((wrap64 (2 * x14)) + 1))) = 0 then (if (wrap64 (2 * x14)) < (x10.length : Int) then (if (rd x10 (wrap64 (2 * x14))) = 0 then (if (wrap64 ((wrap64 (2 * x14)) + 1)) < (x10.length : Int) then (racewaylaw6_ResidualBack.j4 k x0 x5 x6 x8 x10 x14 ((rd x10 (wrap64 ((wrap64 (2 * x14)) + 1))) != (rd x6 x14)) x2159000 x2159001 x2159002 x2159003) else (none)) else (racewaylaw6_ResidualBack.j4 k x0 x5 x6 x8 x10 x14 true x2159000 x2159001 x2159002 x2159003)) else (none)) else (racewaylaw6_ResidualBack.j4 k x0 x5 x6 x8 x10 x14 true x2159000 x2159001 x2159002 x2159003)) else (none)) else (none)) else (racewaylaw6_ResidualBack.j4 k x0 x5 x6 x8 x10 x14 true x2159000 x2159001 x2159002 x2159003)) else (none)) else (none)) else (none)) else (none)) else (some true)
def racewaylaw6_ResidualBack.j4 : Nat → List Int → List Int → List Int → List Int → List Int → Int → Bool → Int → Int → Int → List (S49) → Option (Bool)
 | 0, _, _, _, _, _, _, _, _, _, _, _ => none
 | k + 1, x0, x5, x6, x8, x10, x14, x137, x2159000, x2159001, x2159002, x2159003 => if x137 = true then (some false) else (if 0 ≤ x14 then (if x14 < (x6.length : Int) then ((residual_Push.f k x2159000 x2159001 x2159002 x2159003 x5 (([wrap64 (2 * x14)] : List Int)) (rd x6 x14)).bind fun bt2195 => (if bt2195.2 = 0 then (if (rd x6 x14) > 0 then (if x14 < (bt2195.1.length : Int) then (racewaylaw6_ResidualBack.j5 k x0 x5 x6 x8 x10 x14 ((rd bt2195.1 x14) != (rd x6 x14)) x2159000 x2159001 x2159002 x2159003) else (none)) else (racewaylaw6_ResidualBack.j5 k x0 x5 x6 x8 x10 x14 true x2159000 x2159001 x2159002 x2159003)) else (if (rd x6 x14) > 0 then (racewaylaw6_ResidualBack.j5 k x0 x5 x6 x8 x10 x14 true x2159000 x2159001 x2159002 x2159003) else (racewaylaw6_ResidualBack.j5 k x0 x5 x6 x8 x10 x14 false x2159000 x2159001 x2159002 x2159003)))) else (none)) else (none))
def racewaylaw6_ResidualBack.j5 : Nat → List Int → List Int → List Int → List Int → List Int → Int → Bool → Int → Int → Int → List (S49) → Option (Bool)
 | 0, _, _, _, _, _, _, _, _, _, _, _ => none
 | k + 1, x0, x5, x6, x8, x10, x14, x173, x2159000, x2159001, x2159002, x2159003 => if x173 = true then (some false) else ((residual_Push.f k x2159000 x2159001 x2159002 x2159003 x6 (([wrap64 (2 * x14)] : List Int)) 1).bind fun bt2205 => (if bt2205.2 = 9 then (racewaylaw6_ResidualBack.l1 k x0 x5 x6 x8 x10 (wrap64 (x14 + 1)) x2159000 x2159001 x2159002 x2159003) else (some false)))
end
def racewaylaw6_ResidualBack.f (k : Nat) (l0 : List Int) : Option (Bool) := (racewaylaw6_shown.f k).bind fun t2157 => (if t2157 = true then (racewaylaw6_ResidualBack.j0 k l0 t2157 (decide ((l0.length : Int) > 60))) else (racewaylaw6_ResidualBack.j0 k l0 t2157 true))
theorem racewaylaw6_ResidualBack.mono_l : ∀ k, (∀ y0 y1 y2, LeO (racewaylaw6_ResidualBack.j0 k y0 y1 y2) (racewaylaw6_ResidualBack.j0 (k + 1) y0 y1 y2)) ∧ (∀ y0 y1 y2 y3 y4 y5 y6 y7, LeO (racewaylaw6_ResidualBack.l0 k y0 y1 y2 y3 y4 y5 y6 y7) (racewaylaw6_ResidualBack.l0 (k + 1) y0 y1 y2 y3 y4 y5 y6 y7)) ∧ (∀ y0 y1 y2 y3 y4 y5 y6 y7 y8 y9, LeO (racewaylaw6_ResidualBack.j2 k y0 y1 y2 y3 y4 y5 y6 y7 y8 y9) (racewaylaw6_ResidualBack.j2 (k + 1) y0 y1 y2 y3 y4 y5 y6 y7 y8 y9)) ∧ (∀ y0 y1 y2 y3 y4 y5 y6 y7 y8 y9, LeO (racewaylaw6_ResidualBack.l1 k y0 y1 y2 y3 y4 y5 y6 y7 y8 y9) (racewaylaw6_ResidualBack.l1 (k + 1) y0 y1 y2 y3 y4 y5 y6 y7 y8 y9)) ∧ (∀ y0 y1 y2 y3 y4 y5 y6 y7 y8 y9 y10, LeO (racewaylaw6_ResidualBack.j4 k y0 y1 y2 y3 y4 y5 y6 y7 y8 y9 y10) (racewaylaw6_ResidualBack.j4 (k + 1) y0 y1 y2 y3 y4 y5 y6 y7 y8 y9 y10)) ∧ (∀ y0 y1 y2 y3 y4 y5 y6 y7 y8 y9 y10, LeO (racewaylaw6_ResidualBack.j5 k y0 y1 y2 y3 y4 y5 y6 y7 y8 y9 y10) (racewaylaw6_ResidualBack.j5 (k + 1) y0 y1 y2 y3 y4 y5 y6 y7 y8 y9 y10))
 | 0 => ⟨fun _ _ _ r h => by simp [racewaylaw6_ResidualBack.j0] at h, fun _ _ _ _ _ _ _ _ r h => by simp [racewaylaw6_ResidualBack.l0] at h, fun _ _ _ _ _ _ _ _ _ _ r h => by simp [racewaylaw6_ResidualBack.j2] at h, fun _ _ _ _ _ _ _ _ _ _ r h => by simp [racewaylaw6_ResidualBack.l1] at h, fun _ _ _ _ _ _ _ _ _ _ _ r h => by simp [racewaylaw6_ResidualBack.j4] at h, fun _ _ _ _ _ _ _ _ _ _ _ r h => by simp [racewaylaw6_ResidualBack.j5] at h⟩
 | k + 1 => by
  obtain ⟨ih0, ih1, ih2, ih3, ih4, ih5⟩ := racewaylaw6_ResidualBack.mono_l k
  refine ⟨?_, ?_, ?_, ?_, ?_, ?_⟩
  ·intro y0 y1 y2
   unfold racewaylaw6_ResidualBack.j0
   repeat' first
   | (with_reducible exact ih0 _ _ _)
   | (with_reducible exact ih1 _ _ _ _ _ _ _ _)
   | (with_reducible exact ih2 _ _ _ _ _ _ _ _ _ _)
   | (with_reducible exact ih3 _ _ _ _ _ _ _ _ _ _)
   | (with_reducible exact ih4 _ _ _ _ _ _ _ _ _ _ _)
   | (with_reducible exact ih5 _ _ _ _ _ _ _ _ _ _ _)
   | (with_reducible exact racewaylaw6_shown.mono _)
   | (with_reducible exact residual_Push.mono _ _ _ _ _ _ _ _)
   | (with_reducible exact residual_Reach.mono _ _ _ _ _ _ _)
   | (with_reducible exact residual_Room.mono _ _ _ _ _ _)
   | (with_reducible exact LeO.refl _)
   | (with_reducible exact LeO.none _)
   | (with_reducible refine LeO.ite ?_ ?_)
   | (with_reducible refine LeO.bind ?_ (fun _ => ?_))
   | exact ih0 _ _ _
   | exact ih1 _ _ _ _ _ _ _ _
   | exact ih2 _ _ _ _ _ _ _ _ _ _
   | exact ih3 _ _ _ _ _ _ _ _ _ _
   | exact ih4 _ _ _ _ _ _ _ _ _ _ _
   | exact ih5 _ _ _ _ _ _ _ _ _ _ _
   | exact racewaylaw6_shown.mono _
   | exact residual_Push.mono _ _ _ _ _ _ _ _
   | exact residual_Reach.mono _ _ _ _ _ _ _
   | exact residual_Room.mono _ _ _ _ _ _
   | exact LeO.none _
   | refine LeO.ite ?_ ?_
   | refine LeO.bind ?_ (fun _ => ?_)
  ·intro y0 y1 y2 y3 y4 y5 y6 y7
   unfold racewaylaw6_ResidualBack.l0
   repeat' first
   | (with_reducible exact ih0 _ _ _)
   | (with_reducible exact ih1 _ _ _ _ _ _ _ _)
   | (with_reducible exact ih2 _ _ _ _ _ _ _ _ _ _)
   | (with_reducible exact ih3 _ _ _ _ _ _ _ _ _ _)
   | (with_reducible exact ih4 _ _ _ _ _ _ _ _ _ _ _)
   | (with_reducible exact ih5 _ _ _ _ _ _ _ _ _ _ _)
   | (with_reducible exact racewaylaw6_shown.mono _)
   | (with_reducible exact residual_Push.mono _ _ _ _ _ _ _ _)
   | (with_reducible exact residual_Reach.mono _ _ _ _ _ _ _)
   | (with_reducible exact residual_Room.mono _ _ _ _ _ _)
   | (with_reducible exact LeO.refl _)
   | (with_reducible exact LeO.none _)
   | (with_reducible refine LeO.ite ?_ ?_)
   | (with_reducible refine LeO.bind ?_ (fun _ => ?_))
   | exact ih0 _ _ _
   | exact ih1 _ _ _ _ _ _ _ _
   | exact ih2 _ _ _ _ _ _ _ _ _ _
   | exact ih3 _ _ _ _ _ _ _ _ _ _
   | exact ih4 _ _ _ _ _ _ _ _ _ _ _
   | exact ih5 _ _ _ _ _ _ _ _ _ _ _
   | exact racewaylaw6_shown.mono _
   | exact residual_Push.mono _ _ _ _ _ _ _ _
   | exact residual_Reach.mono _ _ _ _ _ _ _
   | exact residual_Room.mono _ _ _ _ _ _
   | exact LeO.none _
   | refine LeO.ite ?_ ?_
   | refine LeO.bind ?_ (fun _ => ?_)
  ·intro y0 y1 y2 y3 y4 y5 y6 y7 y8 y9
   unfold racewaylaw6_ResidualBack.j2
   repeat' first
   | (with_reducible exact ih0 _ _ _)
   | (with_reducible exact ih1 _ _ _ _ _ _ _ _)
   | (with_reducible exact ih2 _ _ _ _ _ _ _ _ _ _)
   | (with_reducible exact ih3 _ _ _ _ _ _ _ _ _ _)
   | (with_reducible exact ih4 _ _ _ _ _ _ _ _ _ _ _)
   | (with_reducible exact ih5 _ _ _ _ _ _ _ _ _ _ _)
   | (with_reducible exact racewaylaw6_shown.mono _)
   | (with_reducible exact residual_Push.mono _ _ _ _ _ _ _ _)
   | (with_reducible exact residual_Reach.mono _ _ _ _ _ _ _)
   | (with_reducible exact residual_Room.mono _ _ _ _ _ _)
   | (with_reducible exact LeO.refl _)
   | (with_reducible exact LeO.none _)
   | (with_reducible refine LeO.ite ?_ ?_)
   | (with_reducible refine LeO.bind ?_ (fun _ => ?_))
   | exact ih0 _ _ _
   | exact ih1 _ _ _ _ _ _ _ _
   | exact ih2 _ _ _ _ _ _ _ _ _ _
   | exact ih3 _ _ _ _ _ _ _ _ _ _
   | exact ih4 _ _ _ _ _ _ _ _ _ _ _
   | exact ih5 _ _ _ _ _ _ _ _ _ _ _
   | exact racewaylaw6_shown.mono _
   | exact residual_Push.mono _ _ _ _ _ _ _ _
   | exact residual_Reach.mono _ _ _ _ _ _ _
   | exact residual_Room.mono _ _ _ _ _ _
   | exact LeO.none _
   | refine LeO.ite ?_ ?_
   | refine LeO.bind ?_ (fun _ => ?_)
  ·intro y0 y1 y2 y3 y4 y5 y6 y7 y8 y9
   unfold racewaylaw6_ResidualBack.l1
   repeat' first
   | (with_reducible exact ih0 _ _ _)
   | (with_reducible exact ih1 _ _ _ _ _ _ _ _)
   | (with_reducible exact ih2 _ _ _ _ _ _ _ _ _ _)
   | (with_reducible exact ih3 _ _ _ _ _ _ _ _ _ _)
   | (with_reducible exact ih4 _ _ _ _ _ _ _ _ _ _ _)
   | (with_reducible exact ih5 _ _ _ _ _ _ _ _ _ _ _)
   | (with_reducible exact racewaylaw6_shown.mono _)
   | (with_reducible exact residual_Push.mono _ _ _ _ _ _ _ _)
   | (with_reducible exact residual_Reach.mono _ _ _ _ _ _ _)
   | (with_reducible exact residual_Room.mono _ _ _ _ _ _)
   | (with_reducible exact LeO.refl _)
   | (with_reducible exact LeO.none _)
   | (with_reducible refine LeO.ite ?_ ?_)
   | (with_reducible refine LeO.bind ?_ (fun _ => ?_))
   | exact ih0 _ _ _
   | exact ih1 _ _ _ _ _ _ _ _
   | exact ih2 _ _ _ _ _ _ _ _ _ _
   | exact ih3 _ _ _ _ _ _ _ _ _ _
   | exact ih4 _ _ _ _ _ _ _ _ _ _ _
   | exact ih5 _ _ _ _ _ _ _ _ _ _ _
   | exact racewaylaw6_shown.mono _
   | exact residual_Push.mono _ _ _ _ _ _ _ _
   | exact residual_Reach.mono _ _ _ _ _ _ _
   | exact residual_Room.mono _ _ _ _ _ _
   | exact LeO.none _
   | refine LeO.ite ?_ ?_
   | refine LeO.bind ?_ (fun _ => ?_)
  ·intro y0 y1 y2 y3 y4 y5 y6 y7 y8 y9 y10
   unfold racewaylaw6_ResidualBack.j4
   repeat' first
   | (with_reducible exact ih0 _ _ _)
   | (with_reducible exact ih1 _ _ _ _ _ _ _ _)
   | (with_reducible exact ih2 _ _ _ _ _ _ _ _ _ _)
   | (with_reducible exact ih3 _ _ _ _ _ _ _ _ _ _)
   | (with_reducible exact ih4 _ _ _ _ _ _ _ _ _ _ _)
   | (with_reducible exact ih5 _ _ _ _ _ _ _ _ _ _ _)
   | (with_reducible exact racewaylaw6_shown.mono _)
   | (with_reducible exact residual_Push.mono _ _ _ _ _ _ _ _)
   | (with_reducible exact residual_Reach.mono _ _ _ _ _ _ _)
   | (with_reducible exact residual_Room.mono _ _ _ _ _ _)
   | (with_reducible exact LeO.refl _)
   | (with_reducible exact LeO.none _)
   | (with_reducible refine LeO.ite ?_ ?_)
   | (with_reducible refine LeO.bind ?_ (fun _ => ?_))
   | exact ih0 _ _ _
   | exact ih1 _ _ _ _ _ _ _ _
   | exact ih2 _ _ _ _ _ _ _ _ _ _
   | exact ih3 _ _ _ _ _ _ _ _ _ _
   | exact ih4 _ _ _ _ _ _ _ _ _ _ _
   | exact ih5 _ _ _ _ _ _ _ _ _ _ _
   | exact racewaylaw6_shown.mono _
   | exact residual_Push.mono _ _ _ _ _ _ _ _
   | exact residual_Reach.mono _ _ _ _ _ _ _
   | exact residual_Room.mono _ _ _ _ _ _
   | exact LeO.none _
   | refine LeO.ite ?_ ?_
   | refine LeO.bind ?_ (fun _ => ?_)
  ·intro y0 y1 y2 y3 y4 y5 y6 y7 y8 y9 y10
   unfold racewaylaw6_ResidualBack.j5
   repeat' first
   | (with_reducible exact ih0 _ _ _)
   | (with_reducible exact ih1 _ _ _ _ _ _ _ _)
   | (with_reducible exact ih2 _ _ _ _ _ _ _ _ _ _)
   | (with_reducible exact ih3 _ _ _ _ _ _ _ _ _ _)
   | (with_reducible exact ih4 _ _ _ _ _ _ _ _ _ _ _)
   | (with_reducible exact ih5 _ _ _ _ _ _ _ _ _ _ _)
   | (with_reducible exact racewaylaw6_shown.mono _)
   | (with_reducible exact residual_Push.mono _ _ _ _ _ _ _ _)
   | (with_reducible exact residual_Reach.mono _ _ _ _ _ _ _)
   | (with_reducible exact residual_Room.mono _ _ _ _ _ _)
   | (with_reducible exact LeO.refl _)
   | (with_reducible exact LeO.none _)
   | (with_reducible refine LeO.ite ?_ ?_)
   | (with_reducible refine LeO.bind ?_ (fun _ => ?_))
   | exact ih0 _ _ _
   | exact ih1 _ _ _ _ _ _ _ _
   | exact ih2 _ _ _ _ _ _ _ _ _ _
   | exact ih3 _ _ _ _ _ _ _ _ _ _
   | exact ih4 _ _ _ _ _ _ _ _ _ _ _
   | exact ih5 _ _ _ _ _ _ _ _ _ _ _
   | exact racewaylaw6_shown.mono _
   | exact residual_Push.mono _ _ _ _ _ _ _ _
   | exact residual_Reach.mono _ _ _ _ _ _ _
   | exact residual_Room.mono _ _ _ _ _ _
   | exact LeO.none _
   | refine LeO.ite ?_ ?_
   | refine LeO.bind ?_ (fun _ => ?_)
theorem racewaylaw6_ResidualBack.mono : ∀ a0 k, LeO (racewaylaw6_ResidualBack.f k a0) (racewaylaw6_ResidualBack.f (k + 1) a0) := by
 intro a0 k
 obtain ⟨ih0, ih1, ih2, ih3, ih4, ih5⟩ := racewaylaw6_ResidualBack.mono_l k
 unfold racewaylaw6_ResidualBack.f
 repeat' first
   | (with_reducible exact ih0 _ _ _)
   | (with_reducible exact ih1 _ _ _ _ _ _ _ _)
   | (with_reducible exact ih2 _ _ _ _ _ _ _ _ _ _)
   | (with_reducible exact ih3 _ _ _ _ _ _ _ _ _ _)
   | (with_reducible exact ih4 _ _ _ _ _ _ _ _ _ _ _)
   | (with_reducible exact ih5 _ _ _ _ _ _ _ _ _ _ _)
   | (with_reducible exact racewaylaw6_shown.mono _)
   | (with_reducible exact residual_Push.mono _ _ _ _ _ _ _ _)
   | (with_reducible exact residual_Reach.mono _ _ _ _ _ _ _)
   | (with_reducible exact residual_Room.mono _ _ _ _ _ _)
   | (with_reducible exact LeO.refl _)
   | (with_reducible exact LeO.none _)
   | (with_reducible refine LeO.ite ?_ ?_)
   | (with_reducible refine LeO.bind ?_ (fun _ => ?_))
   | exact ih0 _ _ _
   | exact ih1 _ _ _ _ _ _ _ _
   | exact ih2 _ _ _ _ _ _ _ _ _ _
   | exact ih3 _ _ _ _ _ _ _ _ _ _
   | exact ih4 _ _ _ _ _ _ _ _ _ _ _
   | exact ih5 _ _ _ _ _ _ _ _ _ _ _
   | exact racewaylaw6_shown.mono _
   | exact residual_Push.mono _ _ _ _ _ _ _ _
   | exact residual_Reach.mono _ _ _ _ _ _ _
   | exact residual_Room.mono _ _ _ _ _ _
   | exact LeO.none _
   | refine LeO.ite ?_ ?_
   | refine LeO.bind ?_ (fun _ => ?_)
def racewaylaw6_ResidualBack.T11 : Bool × List (List Nat × List Nat) := (true, [([], []), ([0], [0]), ([], []), ([], []), ([2, 3], [2, 3]), ([4], [4]), ([5], [5]), ([6], [6]), ([1, 7], [1, 7]), ([0, 1, 2, 3, 4, 5, 6, 7, 8], []), ([9, 8, 8, 0, 1, 2, 3, 4, 5, 6, 7, 8], [8, 9])])
def racewaylaw6_ResidualBack.B11 : List Nat := [0, 1, 0, 0, 12, 28, 60, 124, 255, 511, 1023]
theorem racewaylaw6_ResidualBack.tab11 : rtab .any (opsOf Try.f11 11) = racewaylaw6_ResidualBack.T11 := by kernel_rfl
theorem racewaylaw6_ResidualBack.bits11 : waitsOk racewaylaw6_ResidualBack.T11.2 racewaylaw6_ResidualBack.B11 = true := by kernel_rfl
def racewaylaw6_ResidualBack.T20 : Bool × List (List Nat × List Nat) := (true, [([], []), ([], []), ([1], [1]), ([0, 2], [0, 2]), ([3], [3]), ([], []), ([], []), ([5, 6], [5, 6]), ([7], [7]), ([4, 8], [4, 8]), ([9], [9]), ([10], [10]), ([10], [10]), ([12, 10], [10, 12]), ([13, 10], [10, 13]), ([11, 14, 10], [10, 11, 14]), ([15, 10], [10, 15]), ([16, 10], [10, 16]), ([10, 17], [10, 17]), ([18, 10], [18]), ([19], [19]), ([19], [19]), ([21, 19], [19, 21]), ([20, 22, 19], [19, 20, 22]), ([23, 19], [19, 23]), ([24, 19], [19, 24]), ([19, 25], [19, 25]), ([26, 19], [26]), ([27], [27]), ([27], [27]), ([29, 27], [27, 29]), ([30, 27], [27, 30]), ([28, 31, 27], [27, 28, 31]), ([32, 27], [27, 32]), ([27], [27]), ([27], [27]), ([34, 35, 27], [27, 34, 35]), ([36, 27], [27, 36]), ([33, 37, 27], [27, 33, 37]), ([27, 38], [27, 38])])
def racewaylaw6_ResidualBack.B20 : List Nat := [0, 0, 2, 7, 15, 0, 0, 96, 224, 511, 1023, 2047, 2047, 6143, 14335, 32767, 65535, 131071, 262143, 524287, 1048575, 1048575, 3145727, 8388607, 16777215, 33554431, 67108863, 134217727, 268435455, 268435455, 805306367, 1879048191, 4294967295, 8589934591, 268435455, 268435455, 51808043007, 120527519743, 274877906943, 549755813887]
theorem racewaylaw6_ResidualBack.tab20 : rtab .any (opsOf Try.f11 20) = racewaylaw6_ResidualBack.T20 := by kernel_rfl
theorem racewaylaw6_ResidualBack.bits20 : waitsOk racewaylaw6_ResidualBack.T20.2 racewaylaw6_ResidualBack.B20 = true := by kernel_rfl
def racewaylaw6_ResidualBack.T22 : Bool × List (List Nat × List Nat) := (true, [([], []), ([], []), ([], []), ([2], [2]), ([3], [3]), ([], []), ([], []), ([5, 6], [5, 6]), ([7], [7]), ([0, 1, 4, 8], [0, 1, 4, 8]), ([9], [9]), ([10], [10]), ([10], [10]), ([11, 9, 0, 1, 2, 3, 4, 5, 6, 7, 8, 9, 10, 11], [11]), ([12, 13, 0, 1, 2, 3, 4, 5, 6, 7, 8, 9, 10, 11, 12, 13], [12])])
def racewaylaw6_ResidualBack.B22 : List Nat := [0, 0, 0, 4, 12, 0, 0, 96, 224, 511, 1023, 2047, 2047, 4095, 16383]
theorem racewaylaw6_ResidualBack.tab22 : rtab .any (opsOf Try.f11 22) = racewaylaw6_ResidualBack.T22 := by kernel_rfl
theorem racewaylaw6_ResidualBack.bits22 : waitsOk racewaylaw6_ResidualBack.T22.2 racewaylaw6_ResidualBack.B22 = true := by kernel_rfl
def racewaylaw6_ResidualBack.T23 : Bool × List (List Nat × List Nat) := (true, [([], []), ([0], [0]), ([], []), ([], []), ([2, 3], [2, 3]), ([4], [4]), ([5], [5]), ([1, 6], [1, 6]), ([7], [7]), ([8], [8]), ([9, 8], [8, 9]), ([10, 8, 8], [8, 10]), ([11], [11]), ([11], [11]), ([12, 13, 11], [11, 12, 13]), ([14, 11], [11, 14]), ([11], [11]), ([11], [11]), ([16, 17, 11], [11, 16, 17]), ([18, 11], [11, 18]), ([15, 19, 11], [11, 15, 19]), ([11, 20, 8], [8, 11, 20]), ([8, 21], [8, 21])])
def racewaylaw6_ResidualBack.B23 : List Nat := [0, 1, 0, 0, 12, 28, 60, 127, 255, 511, 1023, 2047, 4095, 4095, 16383, 32767, 4095, 4095, 200703, 462847, 1048575, 2097151, 4194303]
theorem racewaylaw6_ResidualBack.tab23 : rtab .any (opsOf Try.f11 23) = racewaylaw6_ResidualBack.T23 := by kernel_rfl
theorem racewaylaw6_ResidualBack.bits23 : waitsOk racewaylaw6_ResidualBack.T23.2 racewaylaw6_ResidualBack.B23 = true := by kernel_rfl
def m0_ : Array Bool := #[false, false, false, false, false, false, false, false, false, false, false, false, false, false, false, false, false, false, false, false, false, false, false, false, false, false, false, false, false, false, false, false, false, false, false, false, false, false, false, false]
def m1_ : Array Bool := #[true, false, false, false, false, false, false, false, false, false, false, false, false, false, false, false, false, false, false, false, false, false, false, false, false, false, false, false, false, false, false, false, false, false, false, false, false, false, false, false]
def m2_ : Array Bool := #[true, true, false, false, false, false, false, false, false, false, false, false, false, false, false, false, false, false, false, false, false, false, false, false, false, false, false, false, false, false, false, false, false, false, false, false, false, false, false, false]
def m3_ : Array Bool := #[true, true, true, false, false, false, false, false, false, false, false, false, false, false, false, false, false, false, false, false, false, false, false, false, false, false, false, false, false, false, false, false, false, false, false, false, false, false, false, false]
def m4_ : Array Bool := #[true, true, true, true, false, false, false, false, false, false, false, false, false, false, false, false, false, false, false, false, false, false, false, false, false, false, false, false, false, false, false, false, false, false, false, false, false, false, false, false]
def m5_ : Array Bool := #[true, true, true, true, false, true, false, false, false, false, false, false, false, false, false, false, false, false, false, false, false, false, false, false, false, false, false, false, false, false, false, false, false, false, false, false, false, false, false, false]
def m6_ : Array Bool := #[true, true, true, true, false, true, true, false, false, false, false, false, false, false, false, false, false, false, false, false, false, false, false, false, false, false, false, false, false, false, false, false, false, false, false, false, false, false, false, false]
def m7_ : Array Bool := #[true, true, true, true, false, true, true, true, false, false, false, false, false, false, false, false, false, false, false, false, false, false, false, false, false, false, false, false, false, false, false, false, false, false, false, false, false, false, false, false]
def m8_ : Array Bool := #[true, true, true, true, true, true, true, true, false, false, false, false, false, false, false, false, false, false, false, false, false, false, false, false, false, false, false, false, false, false, false, false, false, false, false, false, false, false, false, false]
def m9_ : Array Bool := #[true, true, true, true, true, true, true, true, true, false, false, false, false, false, false, false, false, false, false, false, false, false, false, false, false, false, false, false, false, false, false, false, false, false, false, false, false, false, false, false]
def m10_ : Array Bool := #[true, true, true, true, true, true, true, true, true, true, false, false, false, false, false, false, false, false, false, false, false, false, false, false, false, false, false, false, false, false, false, false, false, false, false, false, false, false, false, false]
def m11_ : Array Bool := #[true, true, true, true, true, true, true, true, true, true, true, false, false, false, false, false, false, false, false, false, false, false, false, false, false, false, false, false, false, false, false, false, false, false, false, false, false, false, false, false]
def m12_ : Array Bool := #[true, true, true, true, true, true, true, true, true, true, true, true, false, false, false, false, false, false, false, false, false, false, false, false, false, false, false, false, false, false, false, false, false, false, false, false, false, false, false, false]
def m13_ : Array Bool := #[true, true, true, true, true, true, true, true, true, true, true, true, true, false, false, false, false, false, false, false, false, false, false, false, false, false, false, false, false, false, false, false, false, false, false, false, false, false, false, false]
def m14_ : Array Bool := #[true, true, true, true, true, true, true, true, true, true, true, true, true, true, false, false, false, false, false, false, false, false, false, false, false, false, false, false, false, false, false, false, false, false, false, false, false, false, false, false]
def m15_ : Array Bool := #[true, true, true, true, true, true, true, true, true, true, true, true, true, true, true, false, false, false, false, false, false, false, false, false, false, false, false, false, false, false, false, false, false, false, false, false, false, false, false, false]
def m16_ : Array Bool := #[true, true, true, true, true, true, true, true, true, true, true, true, true, true, true, true, false, false, false, false, false, false, false, false, false, false, false, false, false, false, false, false, false, false, false, false, false, false, false, false]
def m17_ : Array Bool := #[true, true, true, true, true, true, true, true, true, true, true, true, true, true, true, true, true, false, false, false, false, false, false, false, false, false, false, false, false, false, false, false, false, false, false, false, false, false, false, false]
def m18_ : Array Bool := #[true, true, true, true, true, true, true, true, true, true, true, true, true, true, true, true, true, true, false, false, false, false, false, false, false, false, false, false, false, false, false, false, false, false, false, false, false, false, false, false]
def m19_ : Array Bool := #[true, true, true, true, true, true, true, true, true, true, true, true, true, true, true, true, true, true, true, false, false, false, false, false, false, false, false, false, false, false, false, false, false, false, false, false, false, false, false, false]
def m20_ : Array Bool := #[true, true, true, true, true, true, true, true, true, true, true, true, true, true, true, true, true, true, true, true, false, false, false, false, false, false, false, false, false, false, false, false, false, false, false, false, false, false, false, false]
def m21_ : Array Bool := #[true, true, true, true, true, true, true, true, true, true, true, true, true, true, true, true, true, true, true, true, true, false, false, false, false, false, false, false, false, false, false, false, false, false, false, false, false, false, false, false]
def m22_ : Array Bool := #[true, true, true, true, true, true, true, true, true, true, true, true, true, true, true, true, true, true, true, true, true, true, false, false, false, false, false, false, false, false, false, false, false, false, false, false, false, false, false, false]
def m23_ : Array Bool := #[true, true, true, true, true, true, true, true, true, true, true, true, true, true, true, true, true, true, true, true, true, true, true, false, false, false, false, false, false, false, false, false, false, false, false, false, false, false, false, false]
def m24_ : Array Bool := #[true, true, true, true, true, true, true, true, true, true, true, true, true, true, true, true, true, true, true, true, true, true, true, true, false, false, false, false, false, false, false, false, false, false, false, false, false, false, false, false]
def m25_ : Array Bool := #[true, true, true, true, true, true, true, true, true, true, true, true, true, true, true, true, true, true, true, true, true, true, true, true, true, false, false, false, false, false, false, false, false, false, false, false, false, false, false, false]
def m26_ : Array Bool := #[true, true, true, true, true, true, true, true, true, true, true, true, true, true, true, true, true, true, true, true, true, true, true, true, true, true, false, false, false, false, false, false, false, false, false, false, false, false, false, false]
def m27_ : Array Bool := #[true, true, true, true, true, true, true, true, true, true, true, true, true, true, true, true, true, true, true, true, true, true, true, true, true, true, true, false, false, false, false, false, false, false, false, false, false, false, false, false]
def m28_ : Array Bool := #[true, true, true, true, true, true, true, true, true, true, true, true, true, true, true, true, true, true, true, true, true, true, true, true, true, true, true, true, false, false, false, false, false, false, false, false, false, false, false, false]
def m29_ : Array Bool := #[true, true, true, true, true, true, true, true, true, true, true, true, true, true, true, true, true, true, true, true, true, true, true, true, true, true, true, true, true, false, false, false, false, false, false, false, false, false, false, false]
def m30_ : Array Bool := #[true, true, true, true, true, true, true, true, true, true, true, true, true, true, true, true, true, true, true, true, true, true, true, true, true, true, true, true, true, true, false, false, false, false, false, false, false, false, false, false]
def m31_ : Array Bool := #[true, true, true, true, true, true, true, true, true, true, true, true, true, true, true, true, true, true, true, true, true, true, true, true, true, true, true, true, true, true, true, false, false, false, false, false, false, false, false, false]
def m32_ : Array Bool := #[true, true, true, true, true, true, true, true, true, true, true, true, true, true, true, true, true, true, true, true, true, true, true, true, true, true, true, true, true, true, true, true, false, false, false, false, false, false, false, false]
def m33_ : Array Bool := #[true, true, true, true, true, true, true, true, true, true, true, true, true, true, true, true, true, true, true, true, true, true, true, true, true, true, true, true, true, true, true, true, true, false, false, false, false, false, false, false]
def m34_ : Array Bool := #[true, true, true, true, true, true, true, true, true, true, true, true, true, true, true, true, true, true, true, true, true, true, true, true, true, true, true, true, true, true, true, true, true, true, true, true, true, false, false, false]
def m35_ : Array Bool := #[true, true, true, true, true, true, true, true, true, true, true, true, true, true, true, true, true, true, true, true, true, true, true, true, true, true, true, true, true, true, true, true, true, true, true, true, true, true, false, false]
def m36_ : Array Bool := #[true, true, true, true, true, true, true, true, true, true, true, true, true, true, true, true, true, true, true, true, true, true, true, true, true, true, true, true, true, true, true, true, true, true, true, true, true, true, true, false]
def m37_ : Array Bool := #[true, true, true, true, true, true, true, true, true, true, true, true, true, true, true, true, true, true, true, true, true, true, true, true, true, true, true, true, true, true, true, true, true, true, true, true, true, true, true, true]
def m38_ : Array Bool := #[true, true, true, true, true, true, true, true, true, true, true, true, true, true, true, true, true, true, true, true, true, true, true, true, true, true, true, true, true, true, true, true, true, true, false, false, false, false, false, false]
def m39_ : Array Bool := #[true, true, true, true, true, true, true, true, true, true, true, true, true, true, true, true, true, true, true, true, true, true, true, true, true, true, true, true, true, true, true, true, true, true, true, false, false, false, false, false]
def m40_ : Array Bool := #[true, true, true, true, true, true, true, true, true, true, true, true, true, true, true, true, true, true, true, true, true, true, true, true, true, true, true, true, true, true, true, true, true, true, true, true, false, false, false, false]
def m41_ : Array Bool := #[false, false, false, false, false, false, false, false, false, false, false, false, false, false, false, false, false, false, false, false, false, false, false]
def m42_ : Array Bool := #[true, false, false, false, false, false, false, false, false, false, false, false, false, false, false, false, false, false, false, false, false, false, false]
def m43_ : Array Bool := #[true, true, false, false, false, false, false, false, false, false, false, false, false, false, false, false, false, false, false, false, false, false, false]
def m44_ : Array Bool := #[true, true, true, false, false, false, false, false, false, false, false, false, false, false, false, false, false, false, false, false, false, false, false]
def m45_ : Array Bool := #[true, true, true, true, false, false, false, false, false, false, false, false, false, false, false, false, false, false, false, false, false, false, false]
def m46_ : Array Bool := #[true, true, true, true, true, false, false, false, false, false, false, false, false, false, false, false, false, false, false, false, false, false, false]
def m47_ : Array Bool := #[true, true, true, true, true, true, false, false, false, false, false, false, false, false, false, false, false, false, false, false, false, false, false]
def m48_ : Array Bool := #[true, true, true, true, true, true, true, false, false, false, false, false, false, false, false, false, false, false, false, false, false, false, false]
def m49_ : Array Bool := #[true, true, true, true, true, true, true, true, false, false, false, false, false, false, false, false, false, false, false, false, false, false, false]
def m50_ : Array Bool := #[true, true, true, true, true, true, true, true, true, false, false, false, false, false, false, false, false, false, false, false, false, false, false]
def m51_ : Array Bool := #[true, true, true, true, true, true, true, true, true, true, false, false, false, false, false, false, false, false, false, false, false, false, false]
def m52_ : Array Bool := #[true, true, true, true, true, true, true, true, true, true, true, false, false, false, false, false, false, false, false, false, false, false, false]
def m53_ : Array Bool := #[true, true, true, true, true, true, true, true, true, true, true, true, false, false, false, false, false, false, false, false, false, false, false]
def m54_ : Array Bool := #[true, true, true, true, true, true, true, true, true, true, true, true, true, false, false, false, false, false, false, false, false, false, false]
def m55_ : Array Bool := #[true, true, true, true, true, true, true, true, true, true, true, true, true, true, false, false, false, false, false, false, false, false, false]
def m56_ : Array Bool := #[true, true, true, true, true, true, true, true, true, true, true, true, true, true, true, false, false, false, false, false, false, false, false]
def m57_ : Array Bool := #[true, true, true, true, true, true, true, true, true, true, true, true, true, true, true, true, true, true, true, false, false, false, false]
def m58_ : Array Bool := #[true, true, true, true, true, true, true, true, true, true, true, true, true, true, true, true, true, true, true, true, false, false, false]
def m59_ : Array Bool := #[true, true, true, true, true, true, true, true, true, true, true, true, true, true, true, true, true, true, true, true, true, false, false]
def m60_ : Array Bool := #[true, true, true, true, true, true, true, true, true, true, true, true, true, true, true, true, true, true, true, true, true, true, false]
def m61_ : Array Bool := #[true, true, true, true, true, true, true, true, true, true, true, true, true, true, true, true, true, true, true, true, true, true, true]
def m62_ : Array Bool := #[true, true, true, true, true, true, true, true, true, true, true, true, true, true, true, true, false, false, false, false, false, false, false]
def m63_ : Array Bool := #[true, true, true, true, true, true, true, true, true, true, true, true, true, true, true, true, true, false, false, false, false, false, false]
def m64_ : Array Bool := #[true, true, true, true, true, true, true, true, true, true, true, true, true, true, true, true, true, true, false, false, false, false, false]
/-- THE ONE PURE STATEMENT of racewaylaw6_ResidualBack: yours. -/
def racewaylaw6_ResidualBack.Pure : Prop := ∀ (l0 : List Int), l0.length ≤ maxLen → l0.length * 8 ≤ 140737488351232 → (∀ x ∈ l0, (Lit.int .i64 x).wf = true) → ∃ k, racewaylaw6_ResidualBack.f k l0 = some true
end Go.Proofs.Ytbppeffcikphcaa.PResidualBack
